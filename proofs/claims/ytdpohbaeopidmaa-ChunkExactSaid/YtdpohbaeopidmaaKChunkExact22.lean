/- chunk's law: ChunkExact's deeds (printed by XChunkDo.gen.py). -/
import Derived.Test.YtdpohbaeopidmaaKChunkExact21
namespace Go.Proofs.Ytdpohbaeopidmaa
attribute [local simp] BigFrame.eval_const BigFrame.eval_global BigFrame.eval_func
set_option linter.unusedVariables false
set_option linter.unusedSimpArgs false
open Go.RowKit Go.Maps

theorem looL_nil (n : Nat) : (looL n (fun _ => none)).length = 0 := by
  induction n with
  | zero => rfl
  | succ n ih => rw [looL_len_no rfl]; exact ih

set_option maxRecDepth 100000 in
set_option maxHeartbeats 4000000 in
theorem ck_fit20 {H : Nat} {A0 : World} {p mb cap bm db p2 cap2 bm2 na nb sz ub c1 c2 xb i len capA : Nat} {B B2 D1 D2 A : Option Addr} {Sa Sb : List Sec} {La Lb : Int → Option Sec} {M : Mn} {c : Int} {b : UInt8} {Q : Exit → Act → World → Prop} {v20 v21 : Value} {K t x t2 x2 y N : Int} {m : Nat} (a : Act) (w : World) (k : Fr 479 a)
    (e2 : a.eval (.tmp 2) = .int .i64 ↑sz) (e3 : a.eval (.tmp 3) = .slice A len capA) (e10 : a.eval (.tmp 10) = .pointer (some ⟨p, 0, none⟩)) (e11 : a.eval (.tmp 11) = .pointer (some ⟨p2, 0, none⟩)) (e12 : a.eval (.tmp 12) = .pointer (some ⟨db, 0, none⟩)) (e14 : a.eval (.tmp 14) = .pointer (some ⟨ub, 0, none⟩)) (e15 : a.eval (.tmp 15) = .int .i64 ↑i) (e16 : a.eval (.tmp 16) = .pointer (some ⟨xb, 0, none⟩)) (e17 : a.eval (.tmp 17) = .bool (isK sz na nb t x)) (e18 : a.eval (.tmp 18) = .int .i64 ↑m)
    (O : OwnT H A0 [tDisc p mb B na cap bm Sa La, tMn mb M, tDisc p2 mb B2 nb cap2 bm2 Sb Lb, tBlk db 149 #[.pointer (some ⟨p, 0, none⟩), .pointer (some ⟨p2, 0, none⟩), .int .i64 ↑sz], tBlk ub 107 #[.slice D1 na c1, .slice D2 nb c2, .int .i64 ↑sz], tRow 9 1 (.slice D1 na c1) na (strsV (nowL Sa La)), tRow 9 1 (.slice D2 nb c2) nb (strsV (nowL Sb Lb)), tBlk xb 101 #[.int .i64 K, .int .i64 t, .int .i64 x, .int .i64 t2, .int .i64 x2, .int .i64 y, .int .i64 N, .int .u8 ↑b.toNat]] w) (hz : sz ≤ 8) (hm : m ≤ 10)
    (hQ : ∀ a w, Fr 479 a → a.eval (.tmp 2) = .int .i64 ↑sz → a.eval (.tmp 3) = .slice A len capA → a.eval (.tmp 10) = .pointer (some ⟨p, 0, none⟩) → a.eval (.tmp 11) = .pointer (some ⟨p2, 0, none⟩) → a.eval (.tmp 12) = .pointer (some ⟨db, 0, none⟩) → a.eval (.tmp 14) = .pointer (some ⟨ub, 0, none⟩) → a.eval (.tmp 15) = .int .i64 ↑i → a.eval (.tmp 16) = .pointer (some ⟨xb, 0, none⟩) → a.eval (.tmp 17) = .bool (isK sz na nb t x) → a.eval (.tmp 18) = .int .i64 ↑m → a.eval (.tmp 19) = .bool (fitsB sz y m) → OwnT H A0 [tDisc p mb B na cap bm Sa La, tMn mb M, tDisc p2 mb B2 nb cap2 bm2 Sb Lb, tBlk db 149 #[.pointer (some ⟨p, 0, none⟩), .pointer (some ⟨p2, 0, none⟩), .int .i64 ↑sz], tBlk ub 107 #[.slice D1 na c1, .slice D2 nb c2, .int .i64 ↑sz], tRow 9 1 (.slice D1 na c1) na (strsV (nowL Sa La)), tRow 9 1 (.slice D2 nb c2) nb (strsV (nowL Sb Lb)), tBlk xb 101 #[.int .i64 K, .int .i64 t, .int .i64 x, .int .i64 t2, .int .i64 x2, .int .i64 y, .int .i64 N, .int .u8 ↑b.toNat]] w → Q .normal a w) : Code.wp Try.prog (codeAt [1, 1, 1, 1, 1, 1, 1, 1, 1, 1, 0, 1, 0, 0, 1, 0, 0, 1, 1, 1, 0] (Try.f10.body.getD .skip)) Q a w := by
  conv => arg 2; whnf
  by_cases h0 : 0 ≤ y
  rotate_left
  · skip
    refine wp_region_lit ?_
    have hE := Env.refl a [126, 127, 128, 129, 130, 131, 132, 133, 134, 135, 136, 137, 138, 139, 140, 141, 142, 19]
    apply sq_det 126 hE k rfl (by rfl) (by rfl) rfl
    case h =>
      simp [go_sem, ↓IntWalk.iteOmega, ev (hE.eval 16 (by rfl) e16)]
      with_reducible rfl
    intro a1 hE e126 kp
    apply sq_det 127 hE k rfl (by rfl) (by rfl) rfl
    case h =>
      have q0 : w.cell? ⟨xb, 5, none⟩ = some (.int .i64 y) := (OwnT.blk O 7 rfl).cell 5
      simp [go_sem, ↓IntWalk.iteOmega, ev e126, q0]
      with_reducible rfl
    intro a2 hE e127 kp
    apply sq_det 128 hE k rfl (by rfl) (by rfl) rfl
    case h =>
      exact x_dec (x_geq rfl e127 rfl) (decide_eq_false (by omega))
    intro a3 hE e128 kp
    apply sq_det 129 hE k rfl (by rfl) (by rfl) rfl
    case h =>
      exact x_move rfl e128
    intro a4 hE e129 kp
    refine sq_skipg 130 hE k rfl (by rfl) (by rfl) rfl rfl (.inl e129) ?_
    intro a5 hE e130 kp
    replace e129 := (kp 129 rfl).trans e129
    refine sq_skipg 131 hE k rfl (by rfl) (by rfl) rfl rfl (.inl e129) ?_
    intro a6 hE e131 kp
    replace e129 := (kp 129 rfl).trans e129
    refine sq_skipg 132 hE k rfl (by rfl) (by rfl) rfl rfl (.inl e129) ?_
    intro a7 hE e132 kp
    replace e129 := (kp 129 rfl).trans e129
    replace e131 := (kp 131 rfl).trans e131
    refine sq_skipg 133 hE k rfl (by rfl) (by rfl) rfl rfl (.inl e129) ?_
    intro a8 hE e133 kp
    replace e129 := (kp 129 rfl).trans e129
    apply sq_det 134 hE k rfl (by rfl) (by rfl) rfl
    case h =>
      exact x_pick_f rfl e129 rfl
    intro a9 hE e134 kp
    apply sq_det 135 hE k rfl (by rfl) (by rfl) rfl
    case h =>
      exact x_move rfl e134
    intro a10 hE e135 kp
    refine sq_skipg 136 hE k rfl (by rfl) (by rfl) rfl rfl (.inl e135) ?_
    intro a11 hE e136 kp
    replace e135 := (kp 135 rfl).trans e135
    refine sq_skipg 137 hE k rfl (by rfl) (by rfl) rfl rfl (.inl e135) ?_
    intro a12 hE e137 kp
    replace e135 := (kp 135 rfl).trans e135
    replace e136 := (kp 136 rfl).trans e136
    refine sq_skipg 138 hE k rfl (by rfl) (by rfl) rfl rfl (.inl e135) ?_
    intro a13 hE e138 kp
    replace e135 := (kp 135 rfl).trans e135
    replace e136 := (kp 136 rfl).trans e136
    replace e137 := (kp 137 rfl).trans e137
    refine sq_skipg 139 hE k rfl (by rfl) (by rfl) rfl rfl (.inl e135) ?_
    intro a14 hE e139 kp
    replace e135 := (kp 135 rfl).trans e135
    replace e136 := (kp 136 rfl).trans e136
    replace e137 := (kp 137 rfl).trans e137
    refine sq_skipg 140 hE k rfl (by rfl) (by rfl) rfl rfl (.inl e135) ?_
    intro a15 hE e140 kp
    replace e135 := (kp 135 rfl).trans e135
    replace e136 := (kp 136 rfl).trans e136
    refine sq_skipg 141 hE k rfl (by rfl) (by rfl) rfl rfl (.inl e135) ?_
    intro a16 hE e141 kp
    replace e135 := (kp 135 rfl).trans e135
    apply sq_det 142 hE k rfl (by rfl) (by rfl) rfl
    case h =>
      exact x_pick_f rfl e135 rfl
    intro a17 hE e142 kp
    apply sq_det 19 hE k rfl (by rfl) (by rfl) rfl
    case h =>
      exact x_assign rfl e142
    intro a18 hE e19 kp
    refine wpList_nil ?_
    replace e2 := hE.eval 2 (by rfl) e2
    replace e3 := hE.eval 3 (by rfl) e3
    replace e10 := hE.eval 10 (by rfl) e10
    replace e11 := hE.eval 11 (by rfl) e11
    replace e12 := hE.eval 12 (by rfl) e12
    replace e14 := hE.eval 14 (by rfl) e14
    replace e15 := hE.eval 15 (by rfl) e15
    replace e16 := hE.eval 16 (by rfl) e16
    replace e17 := hE.eval 17 (by rfl) e17
    replace e18 := hE.eval 18 (by rfl) e18
    replace k := k.env hE
    clear hE
    rw [show false = fitsB sz y m from (decide_eq_false (by omega)).symm] at e19
    exact hQ _ _ k e2 e3 e10 e11 e12 e14 e15 e16 e17 e18 e19 O
  by_cases h1 : y ≤ sz
  rotate_left
  · skip
    refine wp_region_lit ?_
    have hE := Env.refl a [126, 127, 128, 129, 130, 131, 132, 133, 134, 135, 136, 137, 138, 139, 140, 141, 142, 19]
    apply sq_det 126 hE k rfl (by rfl) (by rfl) rfl
    case h =>
      simp [go_sem, ↓IntWalk.iteOmega, ev (hE.eval 16 (by rfl) e16)]
      with_reducible rfl
    intro a19 hE e126 kp
    apply sq_det 127 hE k rfl (by rfl) (by rfl) rfl
    case h =>
      have q0 : w.cell? ⟨xb, 5, none⟩ = some (.int .i64 y) := (OwnT.blk O 7 rfl).cell 5
      simp [go_sem, ↓IntWalk.iteOmega, ev e126, q0]
      with_reducible rfl
    intro a20 hE e127 kp
    apply sq_det 128 hE k rfl (by rfl) (by rfl) rfl
    case h =>
      exact x_dec (x_geq rfl e127 rfl) (decide_eq_true (by omega))
    intro a21 hE e128 kp
    apply sq_det 129 hE k rfl (by rfl) (by rfl) rfl
    case h =>
      exact x_move rfl e128
    intro a22 hE e129 kp
    apply sq_detg 130 hE k rfl (by rfl) (by rfl) rfl rfl e129
    case h =>
      simp [go_sem, ↓IntWalk.iteOmega, ev (hE.eval 16 (by rfl) e16)]
      with_reducible rfl
    intro a23 hE e130 kp
    replace e129 := (kp 129 rfl).trans e129
    apply sq_detg 131 hE k rfl (by rfl) (by rfl) rfl rfl e129
    case h =>
      have q0 : w.cell? ⟨xb, 5, none⟩ = some (.int .i64 y) := (OwnT.blk O 7 rfl).cell 5
      simp [go_sem, ↓IntWalk.iteOmega, ev e130, q0]
      with_reducible rfl
    intro a24 hE e131 kp
    replace e129 := (kp 129 rfl).trans e129
    apply sq_detg 132 hE k rfl (by rfl) (by rfl) rfl rfl e129
    case h =>
      exact x_move rfl (hE.eval 2 (by rfl) e2)
    intro a25 hE e132 kp
    replace e129 := (kp 129 rfl).trans e129
    replace e131 := (kp 131 rfl).trans e131
    apply sq_detg 133 hE k rfl (by rfl) (by rfl) rfl rfl e129
    case h =>
      exact x_dec (x_leq rfl e131 e132) (decide_eq_false (by omega))
    intro a26 hE e133 kp
    replace e129 := (kp 129 rfl).trans e129
    apply sq_det 134 hE k rfl (by rfl) (by rfl) rfl
    case h =>
      exact x_pick_t rfl e129 e133
    intro a27 hE e134 kp
    apply sq_det 135 hE k rfl (by rfl) (by rfl) rfl
    case h =>
      exact x_move rfl e134
    intro a28 hE e135 kp
    refine sq_skipg 136 hE k rfl (by rfl) (by rfl) rfl rfl (.inl e135) ?_
    intro a29 hE e136 kp
    replace e135 := (kp 135 rfl).trans e135
    refine sq_skipg 137 hE k rfl (by rfl) (by rfl) rfl rfl (.inl e135) ?_
    intro a30 hE e137 kp
    replace e135 := (kp 135 rfl).trans e135
    replace e136 := (kp 136 rfl).trans e136
    refine sq_skipg 138 hE k rfl (by rfl) (by rfl) rfl rfl (.inl e135) ?_
    intro a31 hE e138 kp
    replace e135 := (kp 135 rfl).trans e135
    replace e136 := (kp 136 rfl).trans e136
    replace e137 := (kp 137 rfl).trans e137
    refine sq_skipg 139 hE k rfl (by rfl) (by rfl) rfl rfl (.inl e135) ?_
    intro a32 hE e139 kp
    replace e135 := (kp 135 rfl).trans e135
    replace e136 := (kp 136 rfl).trans e136
    replace e137 := (kp 137 rfl).trans e137
    refine sq_skipg 140 hE k rfl (by rfl) (by rfl) rfl rfl (.inl e135) ?_
    intro a33 hE e140 kp
    replace e135 := (kp 135 rfl).trans e135
    replace e136 := (kp 136 rfl).trans e136
    refine sq_skipg 141 hE k rfl (by rfl) (by rfl) rfl rfl (.inl e135) ?_
    intro a34 hE e141 kp
    replace e135 := (kp 135 rfl).trans e135
    apply sq_det 142 hE k rfl (by rfl) (by rfl) rfl
    case h =>
      exact x_pick_f rfl e135 rfl
    intro a35 hE e142 kp
    apply sq_det 19 hE k rfl (by rfl) (by rfl) rfl
    case h =>
      exact x_assign rfl e142
    intro a36 hE e19 kp
    refine wpList_nil ?_
    replace e2 := hE.eval 2 (by rfl) e2
    replace e3 := hE.eval 3 (by rfl) e3
    replace e10 := hE.eval 10 (by rfl) e10
    replace e11 := hE.eval 11 (by rfl) e11
    replace e12 := hE.eval 12 (by rfl) e12
    replace e14 := hE.eval 14 (by rfl) e14
    replace e15 := hE.eval 15 (by rfl) e15
    replace e16 := hE.eval 16 (by rfl) e16
    replace e17 := hE.eval 17 (by rfl) e17
    replace e18 := hE.eval 18 (by rfl) e18
    replace k := k.env hE
    clear hE
    rw [show false = fitsB sz y m from (decide_eq_false (by omega)).symm] at e19
    exact hQ _ _ k e2 e3 e10 e11 e12 e14 e15 e16 e17 e18 e19 O
  by_cases h2 : (m : Int) ≤ sz - y
  rotate_left
  · skip
    refine wp_region_lit ?_
    have hE := Env.refl a [126, 127, 128, 129, 130, 131, 132, 133, 134, 135, 136, 137, 138, 139, 140, 141, 142, 19]
    apply sq_det 126 hE k rfl (by rfl) (by rfl) rfl
    case h =>
      simp [go_sem, ↓IntWalk.iteOmega, ev (hE.eval 16 (by rfl) e16)]
      with_reducible rfl
    intro a37 hE e126 kp
    apply sq_det 127 hE k rfl (by rfl) (by rfl) rfl
    case h =>
      have q0 : w.cell? ⟨xb, 5, none⟩ = some (.int .i64 y) := (OwnT.blk O 7 rfl).cell 5
      simp [go_sem, ↓IntWalk.iteOmega, ev e126, q0]
      with_reducible rfl
    intro a38 hE e127 kp
    apply sq_det 128 hE k rfl (by rfl) (by rfl) rfl
    case h =>
      exact x_dec (x_geq rfl e127 rfl) (decide_eq_true (by omega))
    intro a39 hE e128 kp
    apply sq_det 129 hE k rfl (by rfl) (by rfl) rfl
    case h =>
      exact x_move rfl e128
    intro a40 hE e129 kp
    apply sq_detg 130 hE k rfl (by rfl) (by rfl) rfl rfl e129
    case h =>
      simp [go_sem, ↓IntWalk.iteOmega, ev (hE.eval 16 (by rfl) e16)]
      with_reducible rfl
    intro a41 hE e130 kp
    replace e129 := (kp 129 rfl).trans e129
    apply sq_detg 131 hE k rfl (by rfl) (by rfl) rfl rfl e129
    case h =>
      have q0 : w.cell? ⟨xb, 5, none⟩ = some (.int .i64 y) := (OwnT.blk O 7 rfl).cell 5
      simp [go_sem, ↓IntWalk.iteOmega, ev e130, q0]
      with_reducible rfl
    intro a42 hE e131 kp
    replace e129 := (kp 129 rfl).trans e129
    apply sq_detg 132 hE k rfl (by rfl) (by rfl) rfl rfl e129
    case h =>
      exact x_move rfl (hE.eval 2 (by rfl) e2)
    intro a43 hE e132 kp
    replace e129 := (kp 129 rfl).trans e129
    replace e131 := (kp 131 rfl).trans e131
    apply sq_detg 133 hE k rfl (by rfl) (by rfl) rfl rfl e129
    case h =>
      exact x_dec (x_leq rfl e131 e132) (decide_eq_true (by omega))
    intro a44 hE e133 kp
    replace e129 := (kp 129 rfl).trans e129
    apply sq_det 134 hE k rfl (by rfl) (by rfl) rfl
    case h =>
      exact x_pick_t rfl e129 e133
    intro a45 hE e134 kp
    apply sq_det 135 hE k rfl (by rfl) (by rfl) rfl
    case h =>
      exact x_move rfl e134
    intro a46 hE e135 kp
    apply sq_detg 136 hE k rfl (by rfl) (by rfl) rfl rfl e135
    case h =>
      exact x_move rfl (hE.eval 18 (by rfl) e18)
    intro a47 hE e136 kp
    replace e135 := (kp 135 rfl).trans e135
    apply sq_detg 137 hE k rfl (by rfl) (by rfl) rfl rfl e135
    case h =>
      exact x_move rfl (hE.eval 2 (by rfl) e2)
    intro a48 hE e137 kp
    replace e135 := (kp 135 rfl).trans e135
    replace e136 := (kp 136 rfl).trans e136
    apply sq_detg 138 hE k rfl (by rfl) (by rfl) rfl rfl e135
    case h =>
      simp [go_sem, ↓IntWalk.iteOmega, ev (hE.eval 16 (by rfl) e16)]
      with_reducible rfl
    intro a49 hE e138 kp
    replace e135 := (kp 135 rfl).trans e135
    replace e136 := (kp 136 rfl).trans e136
    replace e137 := (kp 137 rfl).trans e137
    apply sq_detg 139 hE k rfl (by rfl) (by rfl) rfl rfl e135
    case h =>
      have q0 : w.cell? ⟨xb, 5, none⟩ = some (.int .i64 y) := (OwnT.blk O 7 rfl).cell 5
      simp [go_sem, ↓IntWalk.iteOmega, ev e138, q0]
      with_reducible rfl
    intro a50 hE e139 kp
    replace e135 := (kp 135 rfl).trans e135
    replace e136 := (kp 136 rfl).trans e136
    replace e137 := (kp 137 rfl).trans e137
    apply sq_detg 140 hE k rfl (by rfl) (by rfl) rfl rfl e135
    case h =>
      exact x_sub rfl e137 e139 (by omega)
    intro a51 hE e140 kp
    replace e135 := (kp 135 rfl).trans e135
    replace e136 := (kp 136 rfl).trans e136
    apply sq_detg 141 hE k rfl (by rfl) (by rfl) rfl rfl e135
    case h =>
      exact x_dec (x_leq rfl e136 e140) (decide_eq_false (by omega))
    intro a52 hE e141 kp
    replace e135 := (kp 135 rfl).trans e135
    apply sq_det 142 hE k rfl (by rfl) (by rfl) rfl
    case h =>
      exact x_pick_t rfl e135 e141
    intro a53 hE e142 kp
    apply sq_det 19 hE k rfl (by rfl) (by rfl) rfl
    case h =>
      exact x_assign rfl e142
    intro a54 hE e19 kp
    refine wpList_nil ?_
    replace e2 := hE.eval 2 (by rfl) e2
    replace e3 := hE.eval 3 (by rfl) e3
    replace e10 := hE.eval 10 (by rfl) e10
    replace e11 := hE.eval 11 (by rfl) e11
    replace e12 := hE.eval 12 (by rfl) e12
    replace e14 := hE.eval 14 (by rfl) e14
    replace e15 := hE.eval 15 (by rfl) e15
    replace e16 := hE.eval 16 (by rfl) e16
    replace e17 := hE.eval 17 (by rfl) e17
    replace e18 := hE.eval 18 (by rfl) e18
    replace k := k.env hE
    clear hE
    rw [show false = fitsB sz y m from (decide_eq_false (by omega)).symm] at e19
    exact hQ _ _ k e2 e3 e10 e11 e12 e14 e15 e16 e17 e18 e19 O
  refine wp_region_lit ?_
  have hE := Env.refl a [126, 127, 128, 129, 130, 131, 132, 133, 134, 135, 136, 137, 138, 139, 140, 141, 142, 19]
  apply sq_det 126 hE k rfl (by rfl) (by rfl) rfl
  case h =>
    simp [go_sem, ↓IntWalk.iteOmega, ev (hE.eval 16 (by rfl) e16)]
    with_reducible rfl
  intro a55 hE e126 kp
  apply sq_det 127 hE k rfl (by rfl) (by rfl) rfl
  case h =>
    have q0 : w.cell? ⟨xb, 5, none⟩ = some (.int .i64 y) := (OwnT.blk O 7 rfl).cell 5
    simp [go_sem, ↓IntWalk.iteOmega, ev e126, q0]
    with_reducible rfl
  intro a56 hE e127 kp
  apply sq_det 128 hE k rfl (by rfl) (by rfl) rfl
  case h =>
    exact x_dec (x_geq rfl e127 rfl) (decide_eq_true (by omega))
  intro a57 hE e128 kp
  apply sq_det 129 hE k rfl (by rfl) (by rfl) rfl
  case h =>
    exact x_move rfl e128
  intro a58 hE e129 kp
  apply sq_detg 130 hE k rfl (by rfl) (by rfl) rfl rfl e129
  case h =>
    simp [go_sem, ↓IntWalk.iteOmega, ev (hE.eval 16 (by rfl) e16)]
    with_reducible rfl
  intro a59 hE e130 kp
  replace e129 := (kp 129 rfl).trans e129
  apply sq_detg 131 hE k rfl (by rfl) (by rfl) rfl rfl e129
  case h =>
    have q0 : w.cell? ⟨xb, 5, none⟩ = some (.int .i64 y) := (OwnT.blk O 7 rfl).cell 5
    simp [go_sem, ↓IntWalk.iteOmega, ev e130, q0]
    with_reducible rfl
  intro a60 hE e131 kp
  replace e129 := (kp 129 rfl).trans e129
  apply sq_detg 132 hE k rfl (by rfl) (by rfl) rfl rfl e129
  case h =>
    exact x_move rfl (hE.eval 2 (by rfl) e2)
  intro a61 hE e132 kp
  replace e129 := (kp 129 rfl).trans e129
  replace e131 := (kp 131 rfl).trans e131
  apply sq_detg 133 hE k rfl (by rfl) (by rfl) rfl rfl e129
  case h =>
    exact x_dec (x_leq rfl e131 e132) (decide_eq_true (by omega))
  intro a62 hE e133 kp
  replace e129 := (kp 129 rfl).trans e129
  apply sq_det 134 hE k rfl (by rfl) (by rfl) rfl
  case h =>
    exact x_pick_t rfl e129 e133
  intro a63 hE e134 kp
  apply sq_det 135 hE k rfl (by rfl) (by rfl) rfl
  case h =>
    exact x_move rfl e134
  intro a64 hE e135 kp
  apply sq_detg 136 hE k rfl (by rfl) (by rfl) rfl rfl e135
  case h =>
    exact x_move rfl (hE.eval 18 (by rfl) e18)
  intro a65 hE e136 kp
  replace e135 := (kp 135 rfl).trans e135
  apply sq_detg 137 hE k rfl (by rfl) (by rfl) rfl rfl e135
  case h =>
    exact x_move rfl (hE.eval 2 (by rfl) e2)
  intro a66 hE e137 kp
  replace e135 := (kp 135 rfl).trans e135
  replace e136 := (kp 136 rfl).trans e136
  apply sq_detg 138 hE k rfl (by rfl) (by rfl) rfl rfl e135
  case h =>
    simp [go_sem, ↓IntWalk.iteOmega, ev (hE.eval 16 (by rfl) e16)]
    with_reducible rfl
  intro a67 hE e138 kp
  replace e135 := (kp 135 rfl).trans e135
  replace e136 := (kp 136 rfl).trans e136
  replace e137 := (kp 137 rfl).trans e137
  apply sq_detg 139 hE k rfl (by rfl) (by rfl) rfl rfl e135
  case h =>
    have q0 : w.cell? ⟨xb, 5, none⟩ = some (.int .i64 y) := (OwnT.blk O 7 rfl).cell 5
    simp [go_sem, ↓IntWalk.iteOmega, ev e138, q0]
    with_reducible rfl
  intro a68 hE e139 kp
  replace e135 := (kp 135 rfl).trans e135
  replace e136 := (kp 136 rfl).trans e136
  replace e137 := (kp 137 rfl).trans e137
  apply sq_detg 140 hE k rfl (by rfl) (by rfl) rfl rfl e135
  case h =>
    exact x_sub rfl e137 e139 (by omega)
  intro a69 hE e140 kp
  replace e135 := (kp 135 rfl).trans e135
  replace e136 := (kp 136 rfl).trans e136
  apply sq_detg 141 hE k rfl (by rfl) (by rfl) rfl rfl e135
  case h =>
    exact x_dec (x_leq rfl e136 e140) (decide_eq_true (by omega))
  intro a70 hE e141 kp
  replace e135 := (kp 135 rfl).trans e135
  apply sq_det 142 hE k rfl (by rfl) (by rfl) rfl
  case h =>
    exact x_pick_t rfl e135 e141
  intro a71 hE e142 kp
  apply sq_det 19 hE k rfl (by rfl) (by rfl) rfl
  case h =>
    exact x_assign rfl e142
  intro a72 hE e19 kp
  refine wpList_nil ?_
  replace e2 := hE.eval 2 (by rfl) e2
  replace e3 := hE.eval 3 (by rfl) e3
  replace e10 := hE.eval 10 (by rfl) e10
  replace e11 := hE.eval 11 (by rfl) e11
  replace e12 := hE.eval 12 (by rfl) e12
  replace e14 := hE.eval 14 (by rfl) e14
  replace e15 := hE.eval 15 (by rfl) e15
  replace e16 := hE.eval 16 (by rfl) e16
  replace e17 := hE.eval 17 (by rfl) e17
  replace e18 := hE.eval 18 (by rfl) e18
  replace k := k.env hE
  clear hE
  rw [show true = fitsB sz y m from (decide_eq_true (by omega)).symm] at e19
  exact hQ _ _ k e2 e3 e10 e11 e12 e14 e15 e16 e17 e18 e19 O
set_option maxRecDepth 100000 in
set_option maxHeartbeats 4000000 in
theorem ck_fit32 {H : Nat} {A0 : World} {p mb cap bm db p2 cap2 bm2 na nb sz ub c1 c2 xb i len capA : Nat} {B B2 D1 D2 A : Option Addr} {Sa Sb : List Sec} {La Lb : Int → Option Sec} {M : Mn} {c : Int} {b : UInt8} {Q : Exit → Act → World → Prop} {v20 v21 : Value} {K t x t2 x2 y N : Int} {m : Nat} (a : Act) (w : World) (k : Fr 479 a)
    (e2 : a.eval (.tmp 2) = .int .i64 ↑sz) (e3 : a.eval (.tmp 3) = .slice A len capA) (e10 : a.eval (.tmp 10) = .pointer (some ⟨p, 0, none⟩)) (e11 : a.eval (.tmp 11) = .pointer (some ⟨p2, 0, none⟩)) (e12 : a.eval (.tmp 12) = .pointer (some ⟨db, 0, none⟩)) (e14 : a.eval (.tmp 14) = .pointer (some ⟨ub, 0, none⟩)) (e15 : a.eval (.tmp 15) = .int .i64 ↑i) (e16 : a.eval (.tmp 16) = .pointer (some ⟨xb, 0, none⟩)) (e17 : a.eval (.tmp 17) = .bool (isK sz na nb t x)) (e20 : a.eval (.tmp 20) = v20) (e21 : a.eval (.tmp 21) = v21)
    (O : OwnT H A0 [tDisc p mb B na cap bm Sa La, tMn mb M, tDisc p2 mb B2 nb cap2 bm2 Sb Lb, tBlk db 149 #[.pointer (some ⟨p, 0, none⟩), .pointer (some ⟨p2, 0, none⟩), .int .i64 ↑sz], tBlk ub 107 #[.slice D1 na c1, .slice D2 nb c2, .int .i64 ↑sz], tRow 9 1 (.slice D1 na c1) na (strsV (nowL Sa La)), tRow 9 1 (.slice D2 nb c2) nb (strsV (nowL Sb Lb)), tBlk xb 101 #[.int .i64 K, .int .i64 t, .int .i64 x, .int .i64 t2, .int .i64 x2, .int .i64 y, .int .i64 N, .int .u8 ↑b.toNat]] w) (hz : sz ≤ 8) (hm : m ≤ 10)
    (hQ : ∀ a w, Fr 479 a → a.eval (.tmp 2) = .int .i64 ↑sz → a.eval (.tmp 3) = .slice A len capA → a.eval (.tmp 10) = .pointer (some ⟨p, 0, none⟩) → a.eval (.tmp 11) = .pointer (some ⟨p2, 0, none⟩) → a.eval (.tmp 12) = .pointer (some ⟨db, 0, none⟩) → a.eval (.tmp 14) = .pointer (some ⟨ub, 0, none⟩) → a.eval (.tmp 15) = .int .i64 ↑i → a.eval (.tmp 16) = .pointer (some ⟨xb, 0, none⟩) → a.eval (.tmp 17) = .bool (isK sz na nb t x) → a.eval (.tmp 20) = v20 → a.eval (.tmp 21) = v21 → a.eval (.tmp 22) = .bool (fitsB sz y N) → OwnT H A0 [tDisc p mb B na cap bm Sa La, tMn mb M, tDisc p2 mb B2 nb cap2 bm2 Sb Lb, tBlk db 149 #[.pointer (some ⟨p, 0, none⟩), .pointer (some ⟨p2, 0, none⟩), .int .i64 ↑sz], tBlk ub 107 #[.slice D1 na c1, .slice D2 nb c2, .int .i64 ↑sz], tRow 9 1 (.slice D1 na c1) na (strsV (nowL Sa La)), tRow 9 1 (.slice D2 nb c2) nb (strsV (nowL Sb Lb)), tBlk xb 101 #[.int .i64 K, .int .i64 t, .int .i64 x, .int .i64 t2, .int .i64 x2, .int .i64 y, .int .i64 N, .int .u8 ↑b.toNat]] w → Q .normal a w) : Code.wp Try.prog (codeAt [1, 1, 1, 1, 1, 1, 1, 1, 1, 1, 0, 1, 0, 0, 1, 0, 0, 1, 1, 1, 1, 0, 1, 0, 1, 0, 1, 0] (Try.f10.body.getD .skip)) Q a w := by
  conv => arg 2; whnf
  by_cases h0 : 0 ≤ y
  rotate_left
  · skip
    refine wp_region_lit ?_
    have hE := Env.refl a [216, 217, 218, 219, 220, 221, 222, 223, 224, 225, 226, 227, 228, 229, 230, 231, 232, 233, 234, 235, 236, 237, 238, 22]
    apply sq_det 216 hE k rfl (by rfl) (by rfl) rfl
    case h =>
      simp [go_sem, ↓IntWalk.iteOmega, ev (hE.eval 16 (by rfl) e16)]
      with_reducible rfl
    intro a1 hE e216 kp
    apply sq_det 217 hE k rfl (by rfl) (by rfl) rfl
    case h =>
      have q0 : w.cell? ⟨xb, 5, none⟩ = some (.int .i64 y) := (OwnT.blk O 7 rfl).cell 5
      simp [go_sem, ↓IntWalk.iteOmega, ev e216, q0]
      with_reducible rfl
    intro a2 hE e217 kp
    apply sq_det 218 hE k rfl (by rfl) (by rfl) rfl
    case h =>
      exact x_dec (x_geq rfl e217 rfl) (decide_eq_false (by omega))
    intro a3 hE e218 kp
    apply sq_det 219 hE k rfl (by rfl) (by rfl) rfl
    case h =>
      exact x_move rfl e218
    intro a4 hE e219 kp
    refine sq_skipg 220 hE k rfl (by rfl) (by rfl) rfl rfl (.inl e219) ?_
    intro a5 hE e220 kp
    replace e219 := (kp 219 rfl).trans e219
    refine sq_skipg 221 hE k rfl (by rfl) (by rfl) rfl rfl (.inl e219) ?_
    intro a6 hE e221 kp
    replace e219 := (kp 219 rfl).trans e219
    refine sq_skipg 222 hE k rfl (by rfl) (by rfl) rfl rfl (.inl e219) ?_
    intro a7 hE e222 kp
    replace e219 := (kp 219 rfl).trans e219
    apply sq_det 223 hE k rfl (by rfl) (by rfl) rfl
    case h =>
      exact x_pick_f rfl e219 rfl
    intro a8 hE e223 kp
    apply sq_det 224 hE k rfl (by rfl) (by rfl) rfl
    case h =>
      exact x_move rfl e223
    intro a9 hE e224 kp
    refine sq_skipg 225 hE k rfl (by rfl) (by rfl) rfl rfl (.inl e224) ?_
    intro a10 hE e225 kp
    replace e224 := (kp 224 rfl).trans e224
    refine sq_skipg 226 hE k rfl (by rfl) (by rfl) rfl rfl (.inl e224) ?_
    intro a11 hE e226 kp
    replace e224 := (kp 224 rfl).trans e224
    refine sq_skipg 227 hE k rfl (by rfl) (by rfl) rfl rfl (.inl e224) ?_
    intro a12 hE e227 kp
    replace e224 := (kp 224 rfl).trans e224
    replace e226 := (kp 226 rfl).trans e226
    refine sq_skipg 228 hE k rfl (by rfl) (by rfl) rfl rfl (.inl e224) ?_
    intro a13 hE e228 kp
    replace e224 := (kp 224 rfl).trans e224
    apply sq_det 229 hE k rfl (by rfl) (by rfl) rfl
    case h =>
      exact x_pick_f rfl e224 rfl
    intro a14 hE e229 kp
    apply sq_det 230 hE k rfl (by rfl) (by rfl) rfl
    case h =>
      exact x_move rfl e229
    intro a15 hE e230 kp
    refine sq_skipg 231 hE k rfl (by rfl) (by rfl) rfl rfl (.inl e230) ?_
    intro a16 hE e231 kp
    replace e230 := (kp 230 rfl).trans e230
    refine sq_skipg 232 hE k rfl (by rfl) (by rfl) rfl rfl (.inl e230) ?_
    intro a17 hE e232 kp
    replace e230 := (kp 230 rfl).trans e230
    refine sq_skipg 233 hE k rfl (by rfl) (by rfl) rfl rfl (.inl e230) ?_
    intro a18 hE e233 kp
    replace e230 := (kp 230 rfl).trans e230
    replace e232 := (kp 232 rfl).trans e232
    refine sq_skipg 234 hE k rfl (by rfl) (by rfl) rfl rfl (.inl e230) ?_
    intro a19 hE e234 kp
    replace e230 := (kp 230 rfl).trans e230
    replace e232 := (kp 232 rfl).trans e232
    replace e233 := (kp 233 rfl).trans e233
    refine sq_skipg 235 hE k rfl (by rfl) (by rfl) rfl rfl (.inl e230) ?_
    intro a20 hE e235 kp
    replace e230 := (kp 230 rfl).trans e230
    replace e232 := (kp 232 rfl).trans e232
    replace e233 := (kp 233 rfl).trans e233
    refine sq_skipg 236 hE k rfl (by rfl) (by rfl) rfl rfl (.inl e230) ?_
    intro a21 hE e236 kp
    replace e230 := (kp 230 rfl).trans e230
    replace e232 := (kp 232 rfl).trans e232
    refine sq_skipg 237 hE k rfl (by rfl) (by rfl) rfl rfl (.inl e230) ?_
    intro a22 hE e237 kp
    replace e230 := (kp 230 rfl).trans e230
    apply sq_det 238 hE k rfl (by rfl) (by rfl) rfl
    case h =>
      exact x_pick_f rfl e230 rfl
    intro a23 hE e238 kp
    apply sq_det 22 hE k rfl (by rfl) (by rfl) rfl
    case h =>
      exact x_assign rfl e238
    intro a24 hE e22 kp
    refine wpList_nil ?_
    replace e2 := hE.eval 2 (by rfl) e2
    replace e3 := hE.eval 3 (by rfl) e3
    replace e10 := hE.eval 10 (by rfl) e10
    replace e11 := hE.eval 11 (by rfl) e11
    replace e12 := hE.eval 12 (by rfl) e12
    replace e14 := hE.eval 14 (by rfl) e14
    replace e15 := hE.eval 15 (by rfl) e15
    replace e16 := hE.eval 16 (by rfl) e16
    replace e17 := hE.eval 17 (by rfl) e17
    replace e20 := hE.eval 20 (by rfl) e20
    replace e21 := hE.eval 21 (by rfl) e21
    replace k := k.env hE
    clear hE
    rw [show false = fitsB sz y N from (decide_eq_false (by omega)).symm] at e22
    exact hQ _ _ k e2 e3 e10 e11 e12 e14 e15 e16 e17 e20 e21 e22 O
  by_cases h1 : 0 ≤ N
  rotate_left
  · skip
    refine wp_region_lit ?_
    have hE := Env.refl a [216, 217, 218, 219, 220, 221, 222, 223, 224, 225, 226, 227, 228, 229, 230, 231, 232, 233, 234, 235, 236, 237, 238, 22]
    apply sq_det 216 hE k rfl (by rfl) (by rfl) rfl
    case h =>
      simp [go_sem, ↓IntWalk.iteOmega, ev (hE.eval 16 (by rfl) e16)]
      with_reducible rfl
    intro a25 hE e216 kp
    apply sq_det 217 hE k rfl (by rfl) (by rfl) rfl
    case h =>
      have q0 : w.cell? ⟨xb, 5, none⟩ = some (.int .i64 y) := (OwnT.blk O 7 rfl).cell 5
      simp [go_sem, ↓IntWalk.iteOmega, ev e216, q0]
      with_reducible rfl
    intro a26 hE e217 kp
    apply sq_det 218 hE k rfl (by rfl) (by rfl) rfl
    case h =>
      exact x_dec (x_geq rfl e217 rfl) (decide_eq_true (by omega))
    intro a27 hE e218 kp
    apply sq_det 219 hE k rfl (by rfl) (by rfl) rfl
    case h =>
      exact x_move rfl e218
    intro a28 hE e219 kp
    apply sq_detg 220 hE k rfl (by rfl) (by rfl) rfl rfl e219
    case h =>
      simp [go_sem, ↓IntWalk.iteOmega, ev (hE.eval 16 (by rfl) e16)]
      with_reducible rfl
    intro a29 hE e220 kp
    replace e219 := (kp 219 rfl).trans e219
    apply sq_detg 221 hE k rfl (by rfl) (by rfl) rfl rfl e219
    case h =>
      have q0 : w.cell? ⟨xb, 6, none⟩ = some (.int .i64 N) := (OwnT.blk O 7 rfl).cell 6
      simp [go_sem, ↓IntWalk.iteOmega, ev e220, q0]
      with_reducible rfl
    intro a30 hE e221 kp
    replace e219 := (kp 219 rfl).trans e219
    apply sq_detg 222 hE k rfl (by rfl) (by rfl) rfl rfl e219
    case h =>
      exact x_dec (x_geq rfl e221 rfl) (decide_eq_false (by omega))
    intro a31 hE e222 kp
    replace e219 := (kp 219 rfl).trans e219
    apply sq_det 223 hE k rfl (by rfl) (by rfl) rfl
    case h =>
      exact x_pick_t rfl e219 e222
    intro a32 hE e223 kp
    apply sq_det 224 hE k rfl (by rfl) (by rfl) rfl
    case h =>
      exact x_move rfl e223
    intro a33 hE e224 kp
    refine sq_skipg 225 hE k rfl (by rfl) (by rfl) rfl rfl (.inl e224) ?_
    intro a34 hE e225 kp
    replace e224 := (kp 224 rfl).trans e224
    refine sq_skipg 226 hE k rfl (by rfl) (by rfl) rfl rfl (.inl e224) ?_
    intro a35 hE e226 kp
    replace e224 := (kp 224 rfl).trans e224
    refine sq_skipg 227 hE k rfl (by rfl) (by rfl) rfl rfl (.inl e224) ?_
    intro a36 hE e227 kp
    replace e224 := (kp 224 rfl).trans e224
    replace e226 := (kp 226 rfl).trans e226
    refine sq_skipg 228 hE k rfl (by rfl) (by rfl) rfl rfl (.inl e224) ?_
    intro a37 hE e228 kp
    replace e224 := (kp 224 rfl).trans e224
    apply sq_det 229 hE k rfl (by rfl) (by rfl) rfl
    case h =>
      exact x_pick_f rfl e224 rfl
    intro a38 hE e229 kp
    apply sq_det 230 hE k rfl (by rfl) (by rfl) rfl
    case h =>
      exact x_move rfl e229
    intro a39 hE e230 kp
    refine sq_skipg 231 hE k rfl (by rfl) (by rfl) rfl rfl (.inl e230) ?_
    intro a40 hE e231 kp
    replace e230 := (kp 230 rfl).trans e230
    refine sq_skipg 232 hE k rfl (by rfl) (by rfl) rfl rfl (.inl e230) ?_
    intro a41 hE e232 kp
    replace e230 := (kp 230 rfl).trans e230
    refine sq_skipg 233 hE k rfl (by rfl) (by rfl) rfl rfl (.inl e230) ?_
    intro a42 hE e233 kp
    replace e230 := (kp 230 rfl).trans e230
    replace e232 := (kp 232 rfl).trans e232
    refine sq_skipg 234 hE k rfl (by rfl) (by rfl) rfl rfl (.inl e230) ?_
    intro a43 hE e234 kp
    replace e230 := (kp 230 rfl).trans e230
    replace e232 := (kp 232 rfl).trans e232
    replace e233 := (kp 233 rfl).trans e233
    refine sq_skipg 235 hE k rfl (by rfl) (by rfl) rfl rfl (.inl e230) ?_
    intro a44 hE e235 kp
    replace e230 := (kp 230 rfl).trans e230
    replace e232 := (kp 232 rfl).trans e232
    replace e233 := (kp 233 rfl).trans e233
    refine sq_skipg 236 hE k rfl (by rfl) (by rfl) rfl rfl (.inl e230) ?_
    intro a45 hE e236 kp
    replace e230 := (kp 230 rfl).trans e230
    replace e232 := (kp 232 rfl).trans e232
    refine sq_skipg 237 hE k rfl (by rfl) (by rfl) rfl rfl (.inl e230) ?_
    intro a46 hE e237 kp
    replace e230 := (kp 230 rfl).trans e230
    apply sq_det 238 hE k rfl (by rfl) (by rfl) rfl
    case h =>
      exact x_pick_f rfl e230 rfl
    intro a47 hE e238 kp
    apply sq_det 22 hE k rfl (by rfl) (by rfl) rfl
    case h =>
      exact x_assign rfl e238
    intro a48 hE e22 kp
    refine wpList_nil ?_
    replace e2 := hE.eval 2 (by rfl) e2
    replace e3 := hE.eval 3 (by rfl) e3
    replace e10 := hE.eval 10 (by rfl) e10
    replace e11 := hE.eval 11 (by rfl) e11
    replace e12 := hE.eval 12 (by rfl) e12
    replace e14 := hE.eval 14 (by rfl) e14
    replace e15 := hE.eval 15 (by rfl) e15
    replace e16 := hE.eval 16 (by rfl) e16
    replace e17 := hE.eval 17 (by rfl) e17
    replace e20 := hE.eval 20 (by rfl) e20
    replace e21 := hE.eval 21 (by rfl) e21
    replace k := k.env hE
    clear hE
    rw [show false = fitsB sz y N from (decide_eq_false (by omega)).symm] at e22
    exact hQ _ _ k e2 e3 e10 e11 e12 e14 e15 e16 e17 e20 e21 e22 O
  by_cases h2 : y ≤ sz
  rotate_left
  · skip
    refine wp_region_lit ?_
    have hE := Env.refl a [216, 217, 218, 219, 220, 221, 222, 223, 224, 225, 226, 227, 228, 229, 230, 231, 232, 233, 234, 235, 236, 237, 238, 22]
    apply sq_det 216 hE k rfl (by rfl) (by rfl) rfl
    case h =>
      simp [go_sem, ↓IntWalk.iteOmega, ev (hE.eval 16 (by rfl) e16)]
      with_reducible rfl
    intro a49 hE e216 kp
    apply sq_det 217 hE k rfl (by rfl) (by rfl) rfl
    case h =>
      have q0 : w.cell? ⟨xb, 5, none⟩ = some (.int .i64 y) := (OwnT.blk O 7 rfl).cell 5
      simp [go_sem, ↓IntWalk.iteOmega, ev e216, q0]
      with_reducible rfl
    intro a50 hE e217 kp
    apply sq_det 218 hE k rfl (by rfl) (by rfl) rfl
    case h =>
      exact x_dec (x_geq rfl e217 rfl) (decide_eq_true (by omega))
    intro a51 hE e218 kp
    apply sq_det 219 hE k rfl (by rfl) (by rfl) rfl
    case h =>
      exact x_move rfl e218
    intro a52 hE e219 kp
    apply sq_detg 220 hE k rfl (by rfl) (by rfl) rfl rfl e219
    case h =>
      simp [go_sem, ↓IntWalk.iteOmega, ev (hE.eval 16 (by rfl) e16)]
      with_reducible rfl
    intro a53 hE e220 kp
    replace e219 := (kp 219 rfl).trans e219
    apply sq_detg 221 hE k rfl (by rfl) (by rfl) rfl rfl e219
    case h =>
      have q0 : w.cell? ⟨xb, 6, none⟩ = some (.int .i64 N) := (OwnT.blk O 7 rfl).cell 6
      simp [go_sem, ↓IntWalk.iteOmega, ev e220, q0]
      with_reducible rfl
    intro a54 hE e221 kp
    replace e219 := (kp 219 rfl).trans e219
    apply sq_detg 222 hE k rfl (by rfl) (by rfl) rfl rfl e219
    case h =>
      exact x_dec (x_geq rfl e221 rfl) (decide_eq_true (by omega))
    intro a55 hE e222 kp
    replace e219 := (kp 219 rfl).trans e219
    apply sq_det 223 hE k rfl (by rfl) (by rfl) rfl
    case h =>
      exact x_pick_t rfl e219 e222
    intro a56 hE e223 kp
    apply sq_det 224 hE k rfl (by rfl) (by rfl) rfl
    case h =>
      exact x_move rfl e223
    intro a57 hE e224 kp
    apply sq_detg 225 hE k rfl (by rfl) (by rfl) rfl rfl e224
    case h =>
      simp [go_sem, ↓IntWalk.iteOmega, ev (hE.eval 16 (by rfl) e16)]
      with_reducible rfl
    intro a58 hE e225 kp
    replace e224 := (kp 224 rfl).trans e224
    apply sq_detg 226 hE k rfl (by rfl) (by rfl) rfl rfl e224
    case h =>
      have q0 : w.cell? ⟨xb, 5, none⟩ = some (.int .i64 y) := (OwnT.blk O 7 rfl).cell 5
      simp [go_sem, ↓IntWalk.iteOmega, ev e225, q0]
      with_reducible rfl
    intro a59 hE e226 kp
    replace e224 := (kp 224 rfl).trans e224
    apply sq_detg 227 hE k rfl (by rfl) (by rfl) rfl rfl e224
    case h =>
      exact x_move rfl (hE.eval 2 (by rfl) e2)
    intro a60 hE e227 kp
    replace e224 := (kp 224 rfl).trans e224
    replace e226 := (kp 226 rfl).trans e226
    apply sq_detg 228 hE k rfl (by rfl) (by rfl) rfl rfl e224
    case h =>
      exact x_dec (x_leq rfl e226 e227) (decide_eq_false (by omega))
    intro a61 hE e228 kp
    replace e224 := (kp 224 rfl).trans e224
    apply sq_det 229 hE k rfl (by rfl) (by rfl) rfl
    case h =>
      exact x_pick_t rfl e224 e228
    intro a62 hE e229 kp
    apply sq_det 230 hE k rfl (by rfl) (by rfl) rfl
    case h =>
      exact x_move rfl e229
    intro a63 hE e230 kp
    refine sq_skipg 231 hE k rfl (by rfl) (by rfl) rfl rfl (.inl e230) ?_
    intro a64 hE e231 kp
    replace e230 := (kp 230 rfl).trans e230
    refine sq_skipg 232 hE k rfl (by rfl) (by rfl) rfl rfl (.inl e230) ?_
    intro a65 hE e232 kp
    replace e230 := (kp 230 rfl).trans e230
    refine sq_skipg 233 hE k rfl (by rfl) (by rfl) rfl rfl (.inl e230) ?_
    intro a66 hE e233 kp
    replace e230 := (kp 230 rfl).trans e230
    replace e232 := (kp 232 rfl).trans e232
    refine sq_skipg 234 hE k rfl (by rfl) (by rfl) rfl rfl (.inl e230) ?_
    intro a67 hE e234 kp
    replace e230 := (kp 230 rfl).trans e230
    replace e232 := (kp 232 rfl).trans e232
    replace e233 := (kp 233 rfl).trans e233
    refine sq_skipg 235 hE k rfl (by rfl) (by rfl) rfl rfl (.inl e230) ?_
    intro a68 hE e235 kp
    replace e230 := (kp 230 rfl).trans e230
    replace e232 := (kp 232 rfl).trans e232
    replace e233 := (kp 233 rfl).trans e233
    refine sq_skipg 236 hE k rfl (by rfl) (by rfl) rfl rfl (.inl e230) ?_
    intro a69 hE e236 kp
    replace e230 := (kp 230 rfl).trans e230
    replace e232 := (kp 232 rfl).trans e232
    refine sq_skipg 237 hE k rfl (by rfl) (by rfl) rfl rfl (.inl e230) ?_
    intro a70 hE e237 kp
    replace e230 := (kp 230 rfl).trans e230
    apply sq_det 238 hE k rfl (by rfl) (by rfl) rfl
    case h =>
      exact x_pick_f rfl e230 rfl
    intro a71 hE e238 kp
    apply sq_det 22 hE k rfl (by rfl) (by rfl) rfl
    case h =>
      exact x_assign rfl e238
    intro a72 hE e22 kp
    refine wpList_nil ?_
    replace e2 := hE.eval 2 (by rfl) e2
    replace e3 := hE.eval 3 (by rfl) e3
    replace e10 := hE.eval 10 (by rfl) e10
    replace e11 := hE.eval 11 (by rfl) e11
    replace e12 := hE.eval 12 (by rfl) e12
    replace e14 := hE.eval 14 (by rfl) e14
    replace e15 := hE.eval 15 (by rfl) e15
    replace e16 := hE.eval 16 (by rfl) e16
    replace e17 := hE.eval 17 (by rfl) e17
    replace e20 := hE.eval 20 (by rfl) e20
    replace e21 := hE.eval 21 (by rfl) e21
    replace k := k.env hE
    clear hE
    rw [show false = fitsB sz y N from (decide_eq_false (by omega)).symm] at e22
    exact hQ _ _ k e2 e3 e10 e11 e12 e14 e15 e16 e17 e20 e21 e22 O
  by_cases h3 : N ≤ sz - y
  rotate_left
  · skip
    refine wp_region_lit ?_
    have hE := Env.refl a [216, 217, 218, 219, 220, 221, 222, 223, 224, 225, 226, 227, 228, 229, 230, 231, 232, 233, 234, 235, 236, 237, 238, 22]
    apply sq_det 216 hE k rfl (by rfl) (by rfl) rfl
    case h =>
      simp [go_sem, ↓IntWalk.iteOmega, ev (hE.eval 16 (by rfl) e16)]
      with_reducible rfl
    intro a73 hE e216 kp
    apply sq_det 217 hE k rfl (by rfl) (by rfl) rfl
    case h =>
      have q0 : w.cell? ⟨xb, 5, none⟩ = some (.int .i64 y) := (OwnT.blk O 7 rfl).cell 5
      simp [go_sem, ↓IntWalk.iteOmega, ev e216, q0]
      with_reducible rfl
    intro a74 hE e217 kp
    apply sq_det 218 hE k rfl (by rfl) (by rfl) rfl
    case h =>
      exact x_dec (x_geq rfl e217 rfl) (decide_eq_true (by omega))
    intro a75 hE e218 kp
    apply sq_det 219 hE k rfl (by rfl) (by rfl) rfl
    case h =>
      exact x_move rfl e218
    intro a76 hE e219 kp
    apply sq_detg 220 hE k rfl (by rfl) (by rfl) rfl rfl e219
    case h =>
      simp [go_sem, ↓IntWalk.iteOmega, ev (hE.eval 16 (by rfl) e16)]
      with_reducible rfl
    intro a77 hE e220 kp
    replace e219 := (kp 219 rfl).trans e219
    apply sq_detg 221 hE k rfl (by rfl) (by rfl) rfl rfl e219
    case h =>
      have q0 : w.cell? ⟨xb, 6, none⟩ = some (.int .i64 N) := (OwnT.blk O 7 rfl).cell 6
      simp [go_sem, ↓IntWalk.iteOmega, ev e220, q0]
      with_reducible rfl
    intro a78 hE e221 kp
    replace e219 := (kp 219 rfl).trans e219
    apply sq_detg 222 hE k rfl (by rfl) (by rfl) rfl rfl e219
    case h =>
      exact x_dec (x_geq rfl e221 rfl) (decide_eq_true (by omega))
    intro a79 hE e222 kp
    replace e219 := (kp 219 rfl).trans e219
    apply sq_det 223 hE k rfl (by rfl) (by rfl) rfl
    case h =>
      exact x_pick_t rfl e219 e222
    intro a80 hE e223 kp
    apply sq_det 224 hE k rfl (by rfl) (by rfl) rfl
    case h =>
      exact x_move rfl e223
    intro a81 hE e224 kp
    apply sq_detg 225 hE k rfl (by rfl) (by rfl) rfl rfl e224
    case h =>
      simp [go_sem, ↓IntWalk.iteOmega, ev (hE.eval 16 (by rfl) e16)]
      with_reducible rfl
    intro a82 hE e225 kp
    replace e224 := (kp 224 rfl).trans e224
    apply sq_detg 226 hE k rfl (by rfl) (by rfl) rfl rfl e224
    case h =>
      have q0 : w.cell? ⟨xb, 5, none⟩ = some (.int .i64 y) := (OwnT.blk O 7 rfl).cell 5
      simp [go_sem, ↓IntWalk.iteOmega, ev e225, q0]
      with_reducible rfl
    intro a83 hE e226 kp
    replace e224 := (kp 224 rfl).trans e224
    apply sq_detg 227 hE k rfl (by rfl) (by rfl) rfl rfl e224
    case h =>
      exact x_move rfl (hE.eval 2 (by rfl) e2)
    intro a84 hE e227 kp
    replace e224 := (kp 224 rfl).trans e224
    replace e226 := (kp 226 rfl).trans e226
    apply sq_detg 228 hE k rfl (by rfl) (by rfl) rfl rfl e224
    case h =>
      exact x_dec (x_leq rfl e226 e227) (decide_eq_true (by omega))
    intro a85 hE e228 kp
    replace e224 := (kp 224 rfl).trans e224
    apply sq_det 229 hE k rfl (by rfl) (by rfl) rfl
    case h =>
      exact x_pick_t rfl e224 e228
    intro a86 hE e229 kp
    apply sq_det 230 hE k rfl (by rfl) (by rfl) rfl
    case h =>
      exact x_move rfl e229
    intro a87 hE e230 kp
    apply sq_detg 231 hE k rfl (by rfl) (by rfl) rfl rfl e230
    case h =>
      simp [go_sem, ↓IntWalk.iteOmega, ev (hE.eval 16 (by rfl) e16)]
      with_reducible rfl
    intro a88 hE e231 kp
    replace e230 := (kp 230 rfl).trans e230
    apply sq_detg 232 hE k rfl (by rfl) (by rfl) rfl rfl e230
    case h =>
      have q0 : w.cell? ⟨xb, 6, none⟩ = some (.int .i64 N) := (OwnT.blk O 7 rfl).cell 6
      simp [go_sem, ↓IntWalk.iteOmega, ev e231, q0]
      with_reducible rfl
    intro a89 hE e232 kp
    replace e230 := (kp 230 rfl).trans e230
    apply sq_detg 233 hE k rfl (by rfl) (by rfl) rfl rfl e230
    case h =>
      exact x_move rfl (hE.eval 2 (by rfl) e2)
    intro a90 hE e233 kp
    replace e230 := (kp 230 rfl).trans e230
    replace e232 := (kp 232 rfl).trans e232
    apply sq_detg 234 hE k rfl (by rfl) (by rfl) rfl rfl e230
    case h =>
      simp [go_sem, ↓IntWalk.iteOmega, ev (hE.eval 16 (by rfl) e16)]
      with_reducible rfl
    intro a91 hE e234 kp
    replace e230 := (kp 230 rfl).trans e230
    replace e232 := (kp 232 rfl).trans e232
    replace e233 := (kp 233 rfl).trans e233
    apply sq_detg 235 hE k rfl (by rfl) (by rfl) rfl rfl e230
    case h =>
      have q0 : w.cell? ⟨xb, 5, none⟩ = some (.int .i64 y) := (OwnT.blk O 7 rfl).cell 5
      simp [go_sem, ↓IntWalk.iteOmega, ev e234, q0]
      with_reducible rfl
    intro a92 hE e235 kp
    replace e230 := (kp 230 rfl).trans e230
    replace e232 := (kp 232 rfl).trans e232
    replace e233 := (kp 233 rfl).trans e233
    apply sq_detg 236 hE k rfl (by rfl) (by rfl) rfl rfl e230
    case h =>
      exact x_sub rfl e233 e235 (by omega)
    intro a93 hE e236 kp
    replace e230 := (kp 230 rfl).trans e230
    replace e232 := (kp 232 rfl).trans e232
    apply sq_detg 237 hE k rfl (by rfl) (by rfl) rfl rfl e230
    case h =>
      exact x_dec (x_leq rfl e232 e236) (decide_eq_false (by omega))
    intro a94 hE e237 kp
    replace e230 := (kp 230 rfl).trans e230
    apply sq_det 238 hE k rfl (by rfl) (by rfl) rfl
    case h =>
      exact x_pick_t rfl e230 e237
    intro a95 hE e238 kp
    apply sq_det 22 hE k rfl (by rfl) (by rfl) rfl
    case h =>
      exact x_assign rfl e238
    intro a96 hE e22 kp
    refine wpList_nil ?_
    replace e2 := hE.eval 2 (by rfl) e2
    replace e3 := hE.eval 3 (by rfl) e3
    replace e10 := hE.eval 10 (by rfl) e10
    replace e11 := hE.eval 11 (by rfl) e11
    replace e12 := hE.eval 12 (by rfl) e12
    replace e14 := hE.eval 14 (by rfl) e14
    replace e15 := hE.eval 15 (by rfl) e15
    replace e16 := hE.eval 16 (by rfl) e16
    replace e17 := hE.eval 17 (by rfl) e17
    replace e20 := hE.eval 20 (by rfl) e20
    replace e21 := hE.eval 21 (by rfl) e21
    replace k := k.env hE
    clear hE
    rw [show false = fitsB sz y N from (decide_eq_false (by omega)).symm] at e22
    exact hQ _ _ k e2 e3 e10 e11 e12 e14 e15 e16 e17 e20 e21 e22 O
  refine wp_region_lit ?_
  have hE := Env.refl a [216, 217, 218, 219, 220, 221, 222, 223, 224, 225, 226, 227, 228, 229, 230, 231, 232, 233, 234, 235, 236, 237, 238, 22]
  apply sq_det 216 hE k rfl (by rfl) (by rfl) rfl
  case h =>
    simp [go_sem, ↓IntWalk.iteOmega, ev (hE.eval 16 (by rfl) e16)]
    with_reducible rfl
  intro a97 hE e216 kp
  apply sq_det 217 hE k rfl (by rfl) (by rfl) rfl
  case h =>
    have q0 : w.cell? ⟨xb, 5, none⟩ = some (.int .i64 y) := (OwnT.blk O 7 rfl).cell 5
    simp [go_sem, ↓IntWalk.iteOmega, ev e216, q0]
    with_reducible rfl
  intro a98 hE e217 kp
  apply sq_det 218 hE k rfl (by rfl) (by rfl) rfl
  case h =>
    exact x_dec (x_geq rfl e217 rfl) (decide_eq_true (by omega))
  intro a99 hE e218 kp
  apply sq_det 219 hE k rfl (by rfl) (by rfl) rfl
  case h =>
    exact x_move rfl e218
  intro a100 hE e219 kp
  apply sq_detg 220 hE k rfl (by rfl) (by rfl) rfl rfl e219
  case h =>
    simp [go_sem, ↓IntWalk.iteOmega, ev (hE.eval 16 (by rfl) e16)]
    with_reducible rfl
  intro a101 hE e220 kp
  replace e219 := (kp 219 rfl).trans e219
  apply sq_detg 221 hE k rfl (by rfl) (by rfl) rfl rfl e219
  case h =>
    have q0 : w.cell? ⟨xb, 6, none⟩ = some (.int .i64 N) := (OwnT.blk O 7 rfl).cell 6
    simp [go_sem, ↓IntWalk.iteOmega, ev e220, q0]
    with_reducible rfl
  intro a102 hE e221 kp
  replace e219 := (kp 219 rfl).trans e219
  apply sq_detg 222 hE k rfl (by rfl) (by rfl) rfl rfl e219
  case h =>
    exact x_dec (x_geq rfl e221 rfl) (decide_eq_true (by omega))
  intro a103 hE e222 kp
  replace e219 := (kp 219 rfl).trans e219
  apply sq_det 223 hE k rfl (by rfl) (by rfl) rfl
  case h =>
    exact x_pick_t rfl e219 e222
  intro a104 hE e223 kp
  apply sq_det 224 hE k rfl (by rfl) (by rfl) rfl
  case h =>
    exact x_move rfl e223
  intro a105 hE e224 kp
  apply sq_detg 225 hE k rfl (by rfl) (by rfl) rfl rfl e224
  case h =>
    simp [go_sem, ↓IntWalk.iteOmega, ev (hE.eval 16 (by rfl) e16)]
    with_reducible rfl
  intro a106 hE e225 kp
  replace e224 := (kp 224 rfl).trans e224
  apply sq_detg 226 hE k rfl (by rfl) (by rfl) rfl rfl e224
  case h =>
    have q0 : w.cell? ⟨xb, 5, none⟩ = some (.int .i64 y) := (OwnT.blk O 7 rfl).cell 5
    simp [go_sem, ↓IntWalk.iteOmega, ev e225, q0]
    with_reducible rfl
  intro a107 hE e226 kp
  replace e224 := (kp 224 rfl).trans e224
  apply sq_detg 227 hE k rfl (by rfl) (by rfl) rfl rfl e224
  case h =>
    exact x_move rfl (hE.eval 2 (by rfl) e2)
  intro a108 hE e227 kp
  replace e224 := (kp 224 rfl).trans e224
  replace e226 := (kp 226 rfl).trans e226
  apply sq_detg 228 hE k rfl (by rfl) (by rfl) rfl rfl e224
  case h =>
    exact x_dec (x_leq rfl e226 e227) (decide_eq_true (by omega))
  intro a109 hE e228 kp
  replace e224 := (kp 224 rfl).trans e224
  apply sq_det 229 hE k rfl (by rfl) (by rfl) rfl
  case h =>
    exact x_pick_t rfl e224 e228
  intro a110 hE e229 kp
  apply sq_det 230 hE k rfl (by rfl) (by rfl) rfl
  case h =>
    exact x_move rfl e229
  intro a111 hE e230 kp
  apply sq_detg 231 hE k rfl (by rfl) (by rfl) rfl rfl e230
  case h =>
    simp [go_sem, ↓IntWalk.iteOmega, ev (hE.eval 16 (by rfl) e16)]
    with_reducible rfl
  intro a112 hE e231 kp
  replace e230 := (kp 230 rfl).trans e230
  apply sq_detg 232 hE k rfl (by rfl) (by rfl) rfl rfl e230
  case h =>
    have q0 : w.cell? ⟨xb, 6, none⟩ = some (.int .i64 N) := (OwnT.blk O 7 rfl).cell 6
    simp [go_sem, ↓IntWalk.iteOmega, ev e231, q0]
    with_reducible rfl
  intro a113 hE e232 kp
  replace e230 := (kp 230 rfl).trans e230
  apply sq_detg 233 hE k rfl (by rfl) (by rfl) rfl rfl e230
  case h =>
    exact x_move rfl (hE.eval 2 (by rfl) e2)
  intro a114 hE e233 kp
  replace e230 := (kp 230 rfl).trans e230
  replace e232 := (kp 232 rfl).trans e232
  apply sq_detg 234 hE k rfl (by rfl) (by rfl) rfl rfl e230
  case h =>
    simp [go_sem, ↓IntWalk.iteOmega, ev (hE.eval 16 (by rfl) e16)]
    with_reducible rfl
  intro a115 hE e234 kp
  replace e230 := (kp 230 rfl).trans e230
  replace e232 := (kp 232 rfl).trans e232
  replace e233 := (kp 233 rfl).trans e233
  apply sq_detg 235 hE k rfl (by rfl) (by rfl) rfl rfl e230
  case h =>
    have q0 : w.cell? ⟨xb, 5, none⟩ = some (.int .i64 y) := (OwnT.blk O 7 rfl).cell 5
    simp [go_sem, ↓IntWalk.iteOmega, ev e234, q0]
    with_reducible rfl
  intro a116 hE e235 kp
  replace e230 := (kp 230 rfl).trans e230
  replace e232 := (kp 232 rfl).trans e232
  replace e233 := (kp 233 rfl).trans e233
  apply sq_detg 236 hE k rfl (by rfl) (by rfl) rfl rfl e230
  case h =>
    exact x_sub rfl e233 e235 (by omega)
  intro a117 hE e236 kp
  replace e230 := (kp 230 rfl).trans e230
  replace e232 := (kp 232 rfl).trans e232
  apply sq_detg 237 hE k rfl (by rfl) (by rfl) rfl rfl e230
  case h =>
    exact x_dec (x_leq rfl e232 e236) (decide_eq_true (by omega))
  intro a118 hE e237 kp
  replace e230 := (kp 230 rfl).trans e230
  apply sq_det 238 hE k rfl (by rfl) (by rfl) rfl
  case h =>
    exact x_pick_t rfl e230 e237
  intro a119 hE e238 kp
  apply sq_det 22 hE k rfl (by rfl) (by rfl) rfl
  case h =>
    exact x_assign rfl e238
  intro a120 hE e22 kp
  refine wpList_nil ?_
  replace e2 := hE.eval 2 (by rfl) e2
  replace e3 := hE.eval 3 (by rfl) e3
  replace e10 := hE.eval 10 (by rfl) e10
  replace e11 := hE.eval 11 (by rfl) e11
  replace e12 := hE.eval 12 (by rfl) e12
  replace e14 := hE.eval 14 (by rfl) e14
  replace e15 := hE.eval 15 (by rfl) e15
  replace e16 := hE.eval 16 (by rfl) e16
  replace e17 := hE.eval 17 (by rfl) e17
  replace e20 := hE.eval 20 (by rfl) e20
  replace e21 := hE.eval 21 (by rfl) e21
  replace k := k.env hE
  clear hE
  rw [show true = fitsB sz y N from (decide_eq_true (by omega)).symm] at e22
  exact hQ _ _ k e2 e3 e10 e11 e12 e14 e15 e16 e17 e20 e21 e22 O
set_option maxRecDepth 100000 in
set_option maxHeartbeats 4000000 in
theorem ck_write {H : Nat} {A0 : World} {p mb cap bm db p2 cap2 bm2 na nb sz ub c1 c2 xb i len capA : Nat} {B B2 D1 D2 A : Option Addr} {Sa Sb : List Sec} {La Lb : Int → Option Sec} {M : Mn} {c : Int} {b : UInt8} {Q : Exit → Act → World → Prop} {K t : Int} {x t2 x2 y N : Int} {m : Nat} (a : Act) (w : World) (k : Fr 479 a)
    (e2 : a.eval (.tmp 2) = .int .i64 ↑sz) (e3 : a.eval (.tmp 3) = .slice A len capA) (e10 : a.eval (.tmp 10) = .pointer (some ⟨p, 0, none⟩)) (e11 : a.eval (.tmp 11) = .pointer (some ⟨p2, 0, none⟩)) (e12 : a.eval (.tmp 12) = .pointer (some ⟨db, 0, none⟩)) (e14 : a.eval (.tmp 14) = .pointer (some ⟨ub, 0, none⟩)) (e15 : a.eval (.tmp 15) = .int .i64 ↑i) (e16 : a.eval (.tmp 16) = .pointer (some ⟨xb, 0, none⟩)) (e17 : a.eval (.tmp 17) = .bool (isK sz na nb t x)) (e18 : a.eval (.tmp 18) = .int .i64 ↑m) (e19 : a.eval (.tmp 19) = .bool (fitsB sz y m)) (e144 : a.eval (.tmp 144) = .int .i64 K)
    (O : OwnT H A0 [tDisc p mb B na cap bm Sa La, tMn mb M, tDisc p2 mb B2 nb cap2 bm2 Sb Lb, tBlk db 149 #[.pointer (some ⟨p, 0, none⟩), .pointer (some ⟨p2, 0, none⟩), .int .i64 ↑sz], tBlk ub 107 #[.slice D1 na c1, .slice D2 nb c2, .int .i64 ↑sz], tRow 9 1 (.slice D1 na c1) na (strsV (nowL Sa La)), tRow 9 1 (.slice D2 nb c2) nb (strsV (nowL Sb Lb)), tBlk xb 101 #[.int .i64 K, .int .i64 t, .int .i64 x, .int .i64 t2, .int .i64 x2, .int .i64 y, .int .i64 N, .int .u8 ↑b.toNat]] w) (hs : 0 < sz) (hz : sz ≤ 8) (hF : M.Free) (hM : M.Ok c) (hc : c ≤ 100000) (hm : m ≤ 10) (k3 : K ≠ 3) (k4 : K ≠ 4) (k5 : K ≠ 5) (k6 : K ≠ 6)
    (hQ : ∀ a w Sa' Sb' La' Lb' M', Fr 479 a → a.eval (.tmp 2) = .int .i64 ↑sz → a.eval (.tmp 3) = .slice A len capA → a.eval (.tmp 10) = .pointer (some ⟨p, 0, none⟩) → a.eval (.tmp 11) = .pointer (some ⟨p2, 0, none⟩) → a.eval (.tmp 12) = .pointer (some ⟨db, 0, none⟩) → a.eval (.tmp 14) = .pointer (some ⟨ub, 0, none⟩) → a.eval (.tmp 15) = .int .i64 ↑i → M'.Free → M'.Ok (c + 20) → OwnT H A0 [tDisc p mb B na cap bm Sa' La', tMn mb M', tDisc p2 mb B2 nb cap2 bm2 Sb' Lb', tBlk db 149 #[.pointer (some ⟨p, 0, none⟩), .pointer (some ⟨p2, 0, none⟩), .int .i64 ↑sz], tBlk ub 107 #[.slice D1 na c1, .slice D2 nb c2, .int .i64 ↑sz], tRow 9 1 (.slice D1 na c1) na (strsV (nowL Sa' La')), tRow 9 1 (.slice D2 nb c2) nb (strsV (nowL Sb' Lb')), tBlk xb 101 #[.int .i64 K, .int .i64 t, .int .i64 x, .int .i64 t2, .int .i64 x2, .int .i64 y, .int .i64 N, .int .u8 ↑b.toNat]] w → Q .normal a w) : Code.wp Try.prog (codeAt [1, 1, 1, 1, 1, 1, 1, 1, 1, 1, 0, 1, 0, 0, 1, 0, 0, 1, 1, 1, 1, 0, 1] (Try.f10.body.getD .skip)) Q a w := by
  conv => arg 2; whnf
  have hDA := (OwnT.discAt O 0 rfl).ok
  have hDB := (OwnT.discAt O 2 rfl).ok
  have hnA := hDA.le
  have hnB := hDB.le
  have hlA := hDA.len
  have hlB := hDB.len
  obtain ⟨l, hl, hll⟩ : ∃ l, List.replicate (16 * m) b = l ∧ l.length = 16 * m := ⟨_, rfl, List.length_replicate⟩
  have h16 : l.length / 16 = m := by omega
  refine wp_block ?_
  refine wp_seq ?_
  refine wp_region_lit ?_
  have hE := Env.refl a [204, 203]
  apply sq_det 204 hE k rfl (by rfl) (by rfl) rfl
  case h =>
    exact x_dec (x_eql rfl (hE.eval 144 (by rfl) e144) rfl) (decide_eq_false k3)
  intro a1 hE e204 kp
  apply sq_det 203 hE k rfl (by rfl) (by rfl) rfl
  case h =>
    exact x_assign rfl e204
  intro a2 hE e203 kp
  refine wpList_nil ?_
  replace e2 := hE.eval 2 (by rfl) e2
  replace e3 := hE.eval 3 (by rfl) e3
  replace e10 := hE.eval 10 (by rfl) e10
  replace e11 := hE.eval 11 (by rfl) e11
  replace e12 := hE.eval 12 (by rfl) e12
  replace e14 := hE.eval 14 (by rfl) e14
  replace e15 := hE.eval 15 (by rfl) e15
  replace e16 := hE.eval 16 (by rfl) e16
  replace e17 := hE.eval 17 (by rfl) e17
  replace e18 := hE.eval 18 (by rfl) e18
  replace e19 := hE.eval 19 (by rfl) e19
  replace e144 := hE.eval 144 (by rfl) e144
  replace k := k.env hE
  clear hE
  refine then_n ?_
  refine cond_f e203 rfl ?_
  refine wp_seq ?_
  refine wp_region_lit ?_
  have hE := Env.refl a2 [297, 296]
  apply sq_det 297 hE k rfl (by rfl) (by rfl) rfl
  case h =>
    exact x_dec (x_eql rfl (hE.eval 144 (by rfl) e144) rfl) (decide_eq_false k4)
  intro a3 hE e297 kp
  apply sq_det 296 hE k rfl (by rfl) (by rfl) rfl
  case h =>
    exact x_assign rfl e297
  intro a4 hE e296 kp
  refine wpList_nil ?_
  replace e2 := hE.eval 2 (by rfl) e2
  replace e3 := hE.eval 3 (by rfl) e3
  replace e10 := hE.eval 10 (by rfl) e10
  replace e11 := hE.eval 11 (by rfl) e11
  replace e12 := hE.eval 12 (by rfl) e12
  replace e14 := hE.eval 14 (by rfl) e14
  replace e15 := hE.eval 15 (by rfl) e15
  replace e16 := hE.eval 16 (by rfl) e16
  replace e17 := hE.eval 17 (by rfl) e17
  replace e18 := hE.eval 18 (by rfl) e18
  replace e19 := hE.eval 19 (by rfl) e19
  replace e144 := hE.eval 144 (by rfl) e144
  replace k := k.env hE
  clear hE e203
  refine then_n ?_
  refine cond_f e296 rfl ?_
  refine wp_seq ?_
  refine wp_region_lit ?_
  have hE := Env.refl a4 [336, 335]
  apply sq_det 336 hE k rfl (by rfl) (by rfl) rfl
  case h =>
    exact x_dec (x_eql rfl (hE.eval 144 (by rfl) e144) rfl) (decide_eq_false k5)
  intro a5 hE e336 kp
  apply sq_det 335 hE k rfl (by rfl) (by rfl) rfl
  case h =>
    exact x_assign rfl e336
  intro a6 hE e335 kp
  refine wpList_nil ?_
  replace e2 := hE.eval 2 (by rfl) e2
  replace e3 := hE.eval 3 (by rfl) e3
  replace e10 := hE.eval 10 (by rfl) e10
  replace e11 := hE.eval 11 (by rfl) e11
  replace e12 := hE.eval 12 (by rfl) e12
  replace e14 := hE.eval 14 (by rfl) e14
  replace e15 := hE.eval 15 (by rfl) e15
  replace e16 := hE.eval 16 (by rfl) e16
  replace e17 := hE.eval 17 (by rfl) e17
  replace e18 := hE.eval 18 (by rfl) e18
  replace e19 := hE.eval 19 (by rfl) e19
  replace e144 := hE.eval 144 (by rfl) e144
  replace k := k.env hE
  clear hE e296
  refine then_n ?_
  refine cond_f e335 rfl ?_
  refine wp_seq ?_
  refine wp_region_lit ?_
  have hE := Env.refl a6 [365, 364]
  apply sq_det 365 hE k rfl (by rfl) (by rfl) rfl
  case h =>
    exact x_dec (x_eql rfl (hE.eval 144 (by rfl) e144) rfl) (decide_eq_false k6)
  intro a7 hE e365 kp
  apply sq_det 364 hE k rfl (by rfl) (by rfl) rfl
  case h =>
    exact x_assign rfl e365
  intro a8 hE e364 kp
  refine wpList_nil ?_
  replace e2 := hE.eval 2 (by rfl) e2
  replace e3 := hE.eval 3 (by rfl) e3
  replace e10 := hE.eval 10 (by rfl) e10
  replace e11 := hE.eval 11 (by rfl) e11
  replace e12 := hE.eval 12 (by rfl) e12
  replace e14 := hE.eval 14 (by rfl) e14
  replace e15 := hE.eval 15 (by rfl) e15
  replace e16 := hE.eval 16 (by rfl) e16
  replace e17 := hE.eval 17 (by rfl) e17
  replace e18 := hE.eval 18 (by rfl) e18
  replace e19 := hE.eval 19 (by rfl) e19
  replace k := k.env hE
  clear hE e144 e335
  refine then_n ?_
  refine cond_f e364 rfl ?_
  refine wp_seq ?_
  refine wp_region_lit ?_
  have hE := Env.refl a8 [145, 146, 147, 148, 27]
  apply sq_det 145 hE k rfl (by rfl) (by rfl) rfl
  case h =>
    simp [go_sem, ↓IntWalk.iteOmega, ev (hE.eval 16 (by rfl) e16)]
    with_reducible rfl
  intro a9 hE e145 kp
  apply sq_det 146 hE k rfl (by rfl) (by rfl) rfl
  case h =>
    have q0 : w.cell? ⟨xb, 7, none⟩ = some (.int .u8 ↑b.toNat) := (OwnT.blk O 7 rfl).cell 7
    simp [go_sem, ↓IntWalk.iteOmega, ev e145, q0]
    with_reducible rfl
  intro a10 hE e146 kp
  apply sq_det 147 hE k rfl (by rfl) (by rfl) rfl
  case h =>
    exact x_move rfl (hE.eval 18 (by rfl) e18)
  intro a11 hE e147 kp
  replace e146 := (kp 146 rfl).trans e146
  apply sq_call 148 hE k rfl (by rfl) (by rfl) rfl
  case h =>
    simp [go_sem, ↓IntWalk.iteOmega, ev e146, ev e147]
    with_reducible exact ⟨rfl, rfl⟩
  case hc => exact (hl ▸ fill18_any b m (by omega) _)
  rintro e w13 ⟨rfl, R⟩
  replace O := OwnT.ext O R
  refine ⟨_, rfl, ?_⟩
  intro a12 hE e148 kp
  apply sq_det 27 hE k rfl (by rfl) (by rfl) rfl
  case h =>
    exact x_assign rfl e148
  intro a14 hE e27 kp
  refine wpList_nil ?_
  replace e2 := hE.eval 2 (by rfl) e2
  replace e3 := hE.eval 3 (by rfl) e3
  replace e10 := hE.eval 10 (by rfl) e10
  replace e11 := hE.eval 11 (by rfl) e11
  replace e12 := hE.eval 12 (by rfl) e12
  replace e14 := hE.eval 14 (by rfl) e14
  replace e15 := hE.eval 15 (by rfl) e15
  replace e16 := hE.eval 16 (by rfl) e16
  replace e17 := hE.eval 17 (by rfl) e17
  replace e19 := hE.eval 19 (by rfl) e19
  replace k := k.env hE
  clear hE e18 e364
  refine then_n ?_
  cases hk : isK sz na nb t x with
  | false =>
    rw [hk] at e17
    refine wp_seq ?_
    refine wp_region_lit ?_
    have hE := Env.refl a14 [149, 150, 151, 152, 153, 154, 155, 28]
    apply sq_det 149 hE k rfl (by rfl) (by rfl) rfl
    case h =>
      exact x_move rfl (hE.eval 12 (by rfl) e12)
    intro a15 hE e149 kp
    apply sq_det 150 hE k rfl (by rfl) (by rfl) rfl
    case h =>
      simp [go_sem, ↓IntWalk.iteOmega, ev (hE.eval 16 (by rfl) e16)]
      with_reducible rfl
    intro a16 hE e150 kp
    replace e149 := (kp 149 rfl).trans e149
    apply sq_det 151 hE k rfl (by rfl) (by rfl) rfl
    case h =>
      have q0 : w13.cell? ⟨xb, 1, none⟩ = some (.int .i64 t) := (OwnT.blk O 7 rfl).cell 1
      have q1 : w13.cell? ⟨xb, 2, none⟩ = some (.int .i64 x) := (OwnT.blk O 7 rfl).cell 2
      simp [go_sem, ↓IntWalk.iteOmega, ev e150, q0, q1]
      with_reducible rfl
    intro a17 hE e151 kp
    replace e149 := (kp 149 rfl).trans e149
    apply sq_det 152 hE k rfl (by rfl) (by rfl) rfl
    case h =>
      simp [go_sem, ↓IntWalk.iteOmega, ev (hE.eval 16 (by rfl) e16)]
      with_reducible rfl
    intro a18 hE e152 kp
    replace e149 := (kp 149 rfl).trans e149
    replace e151 := (kp 151 rfl).trans e151
    apply sq_det 153 hE k rfl (by rfl) (by rfl) rfl
    case h =>
      have q0 : w13.cell? ⟨xb, 5, none⟩ = some (.int .i64 y) := (OwnT.blk O 7 rfl).cell 5
      simp [go_sem, ↓IntWalk.iteOmega, ev e152, q0]
      with_reducible rfl
    intro a19 hE e153 kp
    replace e149 := (kp 149 rfl).trans e149
    replace e151 := (kp 151 rfl).trans e151
    apply sq_det 154 hE k rfl (by rfl) (by rfl) rfl
    case h =>
      exact x_move rfl (hE.eval 27 (by rfl) e27)
    intro a20 hE e154 kp
    replace e149 := (kp 149 rfl).trans e149
    replace e151 := (kp 151 rfl).trans e151
    replace e153 := (kp 153 rfl).trans e153
    apply sq_call 155 hE k rfl (by rfl) (by rfl) rfl
    case h =>
      simp [go_sem, ↓IntWalk.iteOmega, ev e149, ev e151, ev e153, ev e154]
      with_reducible exact ⟨rfl, rfl⟩
    case hc => exact qwrite_bad y l _ O hs hk
    rintro e w22 ⟨rfl, R⟩
    replace O := OwnT.ext O R
    refine ⟨_, rfl, ?_⟩
    intro a21 hE e155 kp
    apply sq_det 28 hE k rfl (by rfl) (by rfl) rfl
    case h =>
      exact x_assign rfl e155
    intro a23 hE e28 kp
    refine wpList_nil ?_
    replace e2 := hE.eval 2 (by rfl) e2
    replace e3 := hE.eval 3 (by rfl) e3
    replace e10 := hE.eval 10 (by rfl) e10
    replace e11 := hE.eval 11 (by rfl) e11
    replace e12 := hE.eval 12 (by rfl) e12
    replace e14 := hE.eval 14 (by rfl) e14
    replace e15 := hE.eval 15 (by rfl) e15
    replace e16 := hE.eval 16 (by rfl) e16
    replace e17 := hE.eval 17 (by rfl) e17
    replace e19 := hE.eval 19 (by rfl) e19
    replace e27 := hE.eval 27 (by rfl) e27
    replace k := k.env hE
    clear hE
    refine then_n ?_
    refine wp_seq ?_
    refine wp_seq ?_
    refine wp_region_lit ?_
    have hE := Env.refl a23 [156, 157, 158, 159, 160, 161, 162, 163, 164, 165, 166, 167, 168, 169, 170, 171, 172, 173, 174, 175, 176, 177, 178, 179, 180, 181, 182]
    apply sq_det 156 hE k rfl (by rfl) (by rfl) rfl
    case h =>
      exact x_move rfl (hE.eval 17 (by rfl) e17)
    intro a24 hE e156 kp
    apply sq_det 157 hE k rfl (by rfl) (by rfl) rfl
    case h =>
      exact x_not rfl e156
    intro a25 hE e157 kp
    apply sq_det 158 hE k rfl (by rfl) (by rfl) rfl
    case h =>
      exact x_move rfl e157
    intro a26 hE e158 kp
    apply sq_detg 159 hE k rfl (by rfl) (by rfl) rfl rfl e158
    case h =>
      exact x_move rfl (hE.eval 28 (by rfl) e28)
    intro a27 hE e159 kp
    replace e158 := (kp 158 rfl).trans e158
    apply sq_detg 160 hE k rfl (by rfl) (by rfl) rfl rfl e158
    case h =>
      exact x_neq rfl e159 rfl
    intro a28 hE e160 kp
    replace e158 := (kp 158 rfl).trans e158
    apply sq_det 161 hE k rfl (by rfl) (by rfl) rfl
    case h =>
      exact x_pick_t rfl e158 e160
    intro a29 hE e161 kp
    apply sq_det 162 hE k rfl (by rfl) (by rfl) rfl
    case h =>
      exact x_move rfl e161
    intro a30 hE e162 kp
    apply sq_detg 163 hE k rfl (by rfl) (by rfl) rfl rfl e162
    case h =>
      exact x_move rfl (hE.eval 17 (by rfl) e17)
    intro a31 hE e163 kp
    replace e162 := (kp 162 rfl).trans e162
    apply sq_detg 164 hE k rfl (by rfl) (by rfl) rfl rfl e162
    case h =>
      exact x_move rfl e163
    intro a32 hE e164 kp
    replace e162 := (kp 162 rfl).trans e162
    refine sq_skipg 165 hE k rfl (by rfl) (by rfl) rfl rfl (.inl e164) ?_
    intro a33 hE e165 kp
    replace e162 := (kp 162 rfl).trans e162
    replace e164 := (kp 164 rfl).trans e164
    refine sq_skipg 166 hE k rfl (by rfl) (by rfl) rfl rfl (.inl e164) ?_
    intro a34 hE e166 kp
    replace e162 := (kp 162 rfl).trans e162
    replace e164 := (kp 164 rfl).trans e164
    apply sq_detg 167 hE k rfl (by rfl) (by rfl) rfl rfl e162
    case h =>
      exact x_pick_f rfl e164 rfl
    intro a35 hE e167 kp
    replace e162 := (kp 162 rfl).trans e162
    apply sq_detg 168 hE k rfl (by rfl) (by rfl) rfl rfl e162
    case h =>
      exact x_move rfl e167
    intro a36 hE e168 kp
    replace e162 := (kp 162 rfl).trans e162
    refine sq_skipg 169 hE k rfl (by rfl) (by rfl) rfl rfl (.inl e168) ?_
    intro a37 hE e169 kp
    replace e162 := (kp 162 rfl).trans e162
    replace e168 := (kp 168 rfl).trans e168
    refine sq_skipg 170 hE k rfl (by rfl) (by rfl) rfl rfl (.inl e168) ?_
    intro a38 hE e170 kp
    replace e162 := (kp 162 rfl).trans e162
    replace e168 := (kp 168 rfl).trans e168
    apply sq_detg 171 hE k rfl (by rfl) (by rfl) rfl rfl e162
    case h =>
      exact x_pick_f rfl e168 rfl
    intro a39 hE e171 kp
    replace e162 := (kp 162 rfl).trans e162
    apply sq_det 172 hE k rfl (by rfl) (by rfl) rfl
    case h =>
      exact x_pick_f rfl e162 e171
    intro a40 hE e172 kp
    apply sq_det 173 hE k rfl (by rfl) (by rfl) rfl
    case h =>
      exact x_move rfl e172
    intro a41 hE e173 kp
    apply sq_detg 174 hE k rfl (by rfl) (by rfl) rfl rfl e173
    case h =>
      exact x_move rfl (hE.eval 17 (by rfl) e17)
    intro a42 hE e174 kp
    replace e173 := (kp 173 rfl).trans e173
    apply sq_detg 175 hE k rfl (by rfl) (by rfl) rfl rfl e173
    case h =>
      exact x_move rfl e174
    intro a43 hE e175 kp
    replace e173 := (kp 173 rfl).trans e173
    refine sq_skipg 176 hE k rfl (by rfl) (by rfl) rfl rfl (.inl e175) ?_
    intro a44 hE e176 kp
    replace e173 := (kp 173 rfl).trans e173
    replace e175 := (kp 175 rfl).trans e175
    apply sq_detg 177 hE k rfl (by rfl) (by rfl) rfl rfl e173
    case h =>
      exact x_pick_f rfl e175 rfl
    intro a45 hE e177 kp
    replace e173 := (kp 173 rfl).trans e173
    apply sq_detg 178 hE k rfl (by rfl) (by rfl) rfl rfl e173
    case h =>
      exact x_move rfl e177
    intro a46 hE e178 kp
    replace e173 := (kp 173 rfl).trans e173
    refine sq_skipg 179 hE k rfl (by rfl) (by rfl) rfl rfl (.inl e178) ?_
    intro a47 hE e179 kp
    replace e173 := (kp 173 rfl).trans e173
    replace e178 := (kp 178 rfl).trans e178
    refine sq_skipg 180 hE k rfl (by rfl) (by rfl) rfl rfl (.inl e178) ?_
    intro a48 hE e180 kp
    replace e173 := (kp 173 rfl).trans e173
    replace e178 := (kp 178 rfl).trans e178
    apply sq_detg 181 hE k rfl (by rfl) (by rfl) rfl rfl e173
    case h =>
      exact x_pick_f rfl e178 rfl
    intro a49 hE e181 kp
    replace e173 := (kp 173 rfl).trans e173
    apply sq_det 182 hE k rfl (by rfl) (by rfl) rfl
    case h =>
      exact x_pick_f rfl e173 e181
    intro a50 hE e182 kp
    refine wpList_nil ?_
    replace e2 := hE.eval 2 (by rfl) e2
    replace e3 := hE.eval 3 (by rfl) e3
    replace e10 := hE.eval 10 (by rfl) e10
    replace e11 := hE.eval 11 (by rfl) e11
    replace e12 := hE.eval 12 (by rfl) e12
    replace e14 := hE.eval 14 (by rfl) e14
    replace e15 := hE.eval 15 (by rfl) e15
    replace e16 := hE.eval 16 (by rfl) e16
    replace e17 := hE.eval 17 (by rfl) e17
    replace e19 := hE.eval 19 (by rfl) e19
    replace e27 := hE.eval 27 (by rfl) e27
    replace k := k.env hE
    clear hE e28
    refine then_n ?_
    refine cond_f e182 rfl ?_
    refine wp_skip ?_
    refine then_n ?_
    refine wp_seq ?_
    refine wp_seq ?_
    refine wp_region_lit ?_
    have hE := Env.refl a50 [183, 184, 185, 186]
    apply sq_det 183 hE k rfl (by rfl) (by rfl) rfl
    case h =>
      exact x_move rfl (hE.eval 17 (by rfl) e17)
    intro a51 hE e183 kp
    apply sq_det 184 hE k rfl (by rfl) (by rfl) rfl
    case h =>
      exact x_move rfl e183
    intro a52 hE e184 kp
    refine sq_skipg 185 hE k rfl (by rfl) (by rfl) rfl rfl (.inl e184) ?_
    intro a53 hE e185 kp
    replace e184 := (kp 184 rfl).trans e184
    apply sq_det 186 hE k rfl (by rfl) (by rfl) rfl
    case h =>
      exact x_pick_f rfl e184 rfl
    intro a54 hE e186 kp
    refine wpList_nil ?_
    replace e2 := hE.eval 2 (by rfl) e2
    replace e3 := hE.eval 3 (by rfl) e3
    replace e10 := hE.eval 10 (by rfl) e10
    replace e11 := hE.eval 11 (by rfl) e11
    replace e12 := hE.eval 12 (by rfl) e12
    replace e14 := hE.eval 14 (by rfl) e14
    replace e15 := hE.eval 15 (by rfl) e15
    replace e16 := hE.eval 16 (by rfl) e16
    replace e27 := hE.eval 27 (by rfl) e27
    replace k := k.env hE
    clear hE e17 e19 e182
    refine then_n ?_
    refine cond_f e186 rfl ?_
    refine wp_skip ?_
    refine then_n ?_
    refine wp_seq ?_
    refine wp_region_lit ?_
    have hE := Env.refl a54 [198, 199, 200, 201, 202]
    apply sq_det 198 hE k rfl (by rfl) (by rfl) rfl
    case h =>
      exact x_move rfl (hE.eval 12 (by rfl) e12)
    intro a55 hE e198 kp
    apply sq_det 199 hE k rfl (by rfl) (by rfl) rfl
    case h =>
      simp [go_sem, ↓IntWalk.iteOmega, ev (hE.eval 16 (by rfl) e16)]
      with_reducible rfl
    intro a56 hE e199 kp
    replace e198 := (kp 198 rfl).trans e198
    apply sq_det 200 hE k rfl (by rfl) (by rfl) rfl
    case h =>
      have q0 : w22.cell? ⟨xb, 1, none⟩ = some (.int .i64 t) := (OwnT.blk O 7 rfl).cell 1
      have q1 : w22.cell? ⟨xb, 2, none⟩ = some (.int .i64 x) := (OwnT.blk O 7 rfl).cell 2
      simp [go_sem, ↓IntWalk.iteOmega, ev e199, q0, q1]
      with_reducible rfl
    intro a57 hE e200 kp
    replace e198 := (kp 198 rfl).trans e198
    apply sq_call 201 hE k rfl (by rfl) (by rfl) rfl
    case h =>
      simp [go_sem, ↓IntWalk.iteOmega, ev e198, ev e200]
      with_reducible exact ⟨rfl, rfl⟩
    case hc => exact qwrite_odd 0 [120] _ O hs hz (by decide) (by decide)
    clear O
    rintro e w59 ⟨rfl, O⟩
    refine ⟨_, rfl, ?_⟩
    intro a58 hE e201 kp
    apply sq_det 202 hE k rfl (by rfl) (by rfl) rfl
    case h =>
      exact x_neq rfl e201 rfl
    intro a60 hE e202 kp
    refine wpList_nil ?_
    replace e2 := hE.eval 2 (by rfl) e2
    replace e3 := hE.eval 3 (by rfl) e3
    replace e10 := hE.eval 10 (by rfl) e10
    replace e11 := hE.eval 11 (by rfl) e11
    replace e12 := hE.eval 12 (by rfl) e12
    replace e14 := hE.eval 14 (by rfl) e14
    replace e15 := hE.eval 15 (by rfl) e15
    replace k := k.env hE
    clear hE e16 e27 e186
    refine then_n ?_
    refine cond_f e202 rfl ?_
    refine wp_skip ?_
    refine block_n ?_
    exact hQ _ _ _ _ _ _ _ k e2 e3 e10 e11 e12 e14 e15 hF (hM.mono (by omega)) O
  | true =>
    rw [hk] at e17
    cases hf : fitsB sz y m with
    | false =>
      rw [hf] at e19
      refine wp_seq ?_
      refine wp_region_lit ?_
      have hE := Env.refl a14 [149, 150, 151, 152, 153, 154, 155, 28]
      apply sq_det 149 hE k rfl (by rfl) (by rfl) rfl
      case h =>
        exact x_move rfl (hE.eval 12 (by rfl) e12)
      intro a61 hE e149 kp
      apply sq_det 150 hE k rfl (by rfl) (by rfl) rfl
      case h =>
        simp [go_sem, ↓IntWalk.iteOmega, ev (hE.eval 16 (by rfl) e16)]
        with_reducible rfl
      intro a62 hE e150 kp
      replace e149 := (kp 149 rfl).trans e149
      apply sq_det 151 hE k rfl (by rfl) (by rfl) rfl
      case h =>
        have q0 : w13.cell? ⟨xb, 1, none⟩ = some (.int .i64 t) := (OwnT.blk O 7 rfl).cell 1
        have q1 : w13.cell? ⟨xb, 2, none⟩ = some (.int .i64 x) := (OwnT.blk O 7 rfl).cell 2
        simp [go_sem, ↓IntWalk.iteOmega, ev e150, q0, q1]
        with_reducible rfl
      intro a63 hE e151 kp
      replace e149 := (kp 149 rfl).trans e149
      apply sq_det 152 hE k rfl (by rfl) (by rfl) rfl
      case h =>
        simp [go_sem, ↓IntWalk.iteOmega, ev (hE.eval 16 (by rfl) e16)]
        with_reducible rfl
      intro a64 hE e152 kp
      replace e149 := (kp 149 rfl).trans e149
      replace e151 := (kp 151 rfl).trans e151
      apply sq_det 153 hE k rfl (by rfl) (by rfl) rfl
      case h =>
        have q0 : w13.cell? ⟨xb, 5, none⟩ = some (.int .i64 y) := (OwnT.blk O 7 rfl).cell 5
        simp [go_sem, ↓IntWalk.iteOmega, ev e152, q0]
        with_reducible rfl
      intro a65 hE e153 kp
      replace e149 := (kp 149 rfl).trans e149
      replace e151 := (kp 151 rfl).trans e151
      apply sq_det 154 hE k rfl (by rfl) (by rfl) rfl
      case h =>
        exact x_move rfl (hE.eval 27 (by rfl) e27)
      intro a66 hE e154 kp
      replace e149 := (kp 149 rfl).trans e149
      replace e151 := (kp 151 rfl).trans e151
      replace e153 := (kp 153 rfl).trans e153
      apply sq_call 155 hE k rfl (by rfl) (by rfl) rfl
      case h =>
        simp [go_sem, ↓IntWalk.iteOmega, ev e149, ev e151, ev e153, ev e154]
        with_reducible exact ⟨rfl, rfl⟩
      case hc => exact qwrite_range y l _ O hs hz hk (by omega) (by omega) (by rw [h16]; exact hf)
      clear O
      rintro e w68 ⟨rfl, O⟩
      refine ⟨_, rfl, ?_⟩
      intro a67 hE e155 kp
      apply sq_det 28 hE k rfl (by rfl) (by rfl) rfl
      case h =>
        exact x_assign rfl e155
      intro a69 hE e28 kp
      refine wpList_nil ?_
      replace e2 := hE.eval 2 (by rfl) e2
      replace e3 := hE.eval 3 (by rfl) e3
      replace e10 := hE.eval 10 (by rfl) e10
      replace e11 := hE.eval 11 (by rfl) e11
      replace e12 := hE.eval 12 (by rfl) e12
      replace e14 := hE.eval 14 (by rfl) e14
      replace e15 := hE.eval 15 (by rfl) e15
      replace e16 := hE.eval 16 (by rfl) e16
      replace e17 := hE.eval 17 (by rfl) e17
      replace e19 := hE.eval 19 (by rfl) e19
      replace e27 := hE.eval 27 (by rfl) e27
      replace k := k.env hE
      clear hE
      refine then_n ?_
      refine wp_seq ?_
      refine wp_seq ?_
      refine wp_region_lit ?_
      have hE := Env.refl a69 [156, 157, 158, 159, 160, 161, 162, 163, 164, 165, 166, 167, 168, 169, 170, 171, 172, 173, 174, 175, 176, 177, 178, 179, 180, 181, 182]
      apply sq_det 156 hE k rfl (by rfl) (by rfl) rfl
      case h =>
        exact x_move rfl (hE.eval 17 (by rfl) e17)
      intro a70 hE e156 kp
      apply sq_det 157 hE k rfl (by rfl) (by rfl) rfl
      case h =>
        exact x_not rfl e156
      intro a71 hE e157 kp
      apply sq_det 158 hE k rfl (by rfl) (by rfl) rfl
      case h =>
        exact x_move rfl e157
      intro a72 hE e158 kp
      refine sq_skipg 159 hE k rfl (by rfl) (by rfl) rfl rfl (.inl e158) ?_
      intro a73 hE e159 kp
      replace e158 := (kp 158 rfl).trans e158
      refine sq_skipg 160 hE k rfl (by rfl) (by rfl) rfl rfl (.inl e158) ?_
      intro a74 hE e160 kp
      replace e158 := (kp 158 rfl).trans e158
      apply sq_det 161 hE k rfl (by rfl) (by rfl) rfl
      case h =>
        exact x_pick_f rfl e158 rfl
      intro a75 hE e161 kp
      apply sq_det 162 hE k rfl (by rfl) (by rfl) rfl
      case h =>
        exact x_move rfl e161
      intro a76 hE e162 kp
      apply sq_detg 163 hE k rfl (by rfl) (by rfl) rfl rfl e162
      case h =>
        exact x_move rfl (hE.eval 17 (by rfl) e17)
      intro a77 hE e163 kp
      replace e162 := (kp 162 rfl).trans e162
      apply sq_detg 164 hE k rfl (by rfl) (by rfl) rfl rfl e162
      case h =>
        exact x_move rfl e163
      intro a78 hE e164 kp
      replace e162 := (kp 162 rfl).trans e162
      apply sq_detg 165 hE k rfl (by rfl) (by rfl) rfl rfl e164
      case h =>
        exact x_move rfl (hE.eval 19 (by rfl) e19)
      intro a79 hE e165 kp
      replace e162 := (kp 162 rfl).trans e162
      replace e164 := (kp 164 rfl).trans e164
      apply sq_detg 166 hE k rfl (by rfl) (by rfl) rfl rfl e164
      case h =>
        exact x_not rfl e165
      intro a80 hE e166 kp
      replace e162 := (kp 162 rfl).trans e162
      replace e164 := (kp 164 rfl).trans e164
      apply sq_detg 167 hE k rfl (by rfl) (by rfl) rfl rfl e162
      case h =>
        exact x_pick_t rfl e164 e166
      intro a81 hE e167 kp
      replace e162 := (kp 162 rfl).trans e162
      apply sq_detg 168 hE k rfl (by rfl) (by rfl) rfl rfl e162
      case h =>
        exact x_move rfl e167
      intro a82 hE e168 kp
      replace e162 := (kp 162 rfl).trans e162
      apply sq_detg 169 hE k rfl (by rfl) (by rfl) rfl rfl e168
      case h =>
        exact x_move rfl (hE.eval 28 (by rfl) e28)
      intro a83 hE e169 kp
      replace e162 := (kp 162 rfl).trans e162
      replace e168 := (kp 168 rfl).trans e168
      apply sq_detg 170 hE k rfl (by rfl) (by rfl) rfl rfl e168
      case h =>
        exact x_neq rfl e169 rfl
      intro a84 hE e170 kp
      replace e162 := (kp 162 rfl).trans e162
      replace e168 := (kp 168 rfl).trans e168
      apply sq_detg 171 hE k rfl (by rfl) (by rfl) rfl rfl e162
      case h =>
        exact x_pick_t rfl e168 e170
      intro a85 hE e171 kp
      replace e162 := (kp 162 rfl).trans e162
      apply sq_det 172 hE k rfl (by rfl) (by rfl) rfl
      case h =>
        exact x_pick_f rfl e162 e171
      intro a86 hE e172 kp
      apply sq_det 173 hE k rfl (by rfl) (by rfl) rfl
      case h =>
        exact x_move rfl e172
      intro a87 hE e173 kp
      apply sq_detg 174 hE k rfl (by rfl) (by rfl) rfl rfl e173
      case h =>
        exact x_move rfl (hE.eval 17 (by rfl) e17)
      intro a88 hE e174 kp
      replace e173 := (kp 173 rfl).trans e173
      apply sq_detg 175 hE k rfl (by rfl) (by rfl) rfl rfl e173
      case h =>
        exact x_move rfl e174
      intro a89 hE e175 kp
      replace e173 := (kp 173 rfl).trans e173
      apply sq_detg 176 hE k rfl (by rfl) (by rfl) rfl rfl e175
      case h =>
        exact x_move rfl (hE.eval 19 (by rfl) e19)
      intro a90 hE e176 kp
      replace e173 := (kp 173 rfl).trans e173
      replace e175 := (kp 175 rfl).trans e175
      apply sq_detg 177 hE k rfl (by rfl) (by rfl) rfl rfl e173
      case h =>
        exact x_pick_t rfl e175 e176
      intro a91 hE e177 kp
      replace e173 := (kp 173 rfl).trans e173
      apply sq_detg 178 hE k rfl (by rfl) (by rfl) rfl rfl e173
      case h =>
        exact x_move rfl e177
      intro a92 hE e178 kp
      replace e173 := (kp 173 rfl).trans e173
      refine sq_skipg 179 hE k rfl (by rfl) (by rfl) rfl rfl (.inl e178) ?_
      intro a93 hE e179 kp
      replace e173 := (kp 173 rfl).trans e173
      replace e178 := (kp 178 rfl).trans e178
      refine sq_skipg 180 hE k rfl (by rfl) (by rfl) rfl rfl (.inl e178) ?_
      intro a94 hE e180 kp
      replace e173 := (kp 173 rfl).trans e173
      replace e178 := (kp 178 rfl).trans e178
      apply sq_detg 181 hE k rfl (by rfl) (by rfl) rfl rfl e173
      case h =>
        exact x_pick_f rfl e178 rfl
      intro a95 hE e181 kp
      replace e173 := (kp 173 rfl).trans e173
      apply sq_det 182 hE k rfl (by rfl) (by rfl) rfl
      case h =>
        exact x_pick_f rfl e173 e181
      intro a96 hE e182 kp
      refine wpList_nil ?_
      replace e2 := hE.eval 2 (by rfl) e2
      replace e3 := hE.eval 3 (by rfl) e3
      replace e10 := hE.eval 10 (by rfl) e10
      replace e11 := hE.eval 11 (by rfl) e11
      replace e12 := hE.eval 12 (by rfl) e12
      replace e14 := hE.eval 14 (by rfl) e14
      replace e15 := hE.eval 15 (by rfl) e15
      replace e16 := hE.eval 16 (by rfl) e16
      replace e17 := hE.eval 17 (by rfl) e17
      replace e19 := hE.eval 19 (by rfl) e19
      replace e27 := hE.eval 27 (by rfl) e27
      replace k := k.env hE
      clear hE e28
      refine then_n ?_
      refine cond_f e182 rfl ?_
      refine wp_skip ?_
      refine then_n ?_
      refine wp_seq ?_
      refine wp_seq ?_
      refine wp_region_lit ?_
      have hE := Env.refl a96 [183, 184, 185, 186]
      apply sq_det 183 hE k rfl (by rfl) (by rfl) rfl
      case h =>
        exact x_move rfl (hE.eval 17 (by rfl) e17)
      intro a97 hE e183 kp
      apply sq_det 184 hE k rfl (by rfl) (by rfl) rfl
      case h =>
        exact x_move rfl e183
      intro a98 hE e184 kp
      apply sq_detg 185 hE k rfl (by rfl) (by rfl) rfl rfl e184
      case h =>
        exact x_move rfl (hE.eval 19 (by rfl) e19)
      intro a99 hE e185 kp
      replace e184 := (kp 184 rfl).trans e184
      apply sq_det 186 hE k rfl (by rfl) (by rfl) rfl
      case h =>
        exact x_pick_t rfl e184 e185
      intro a100 hE e186 kp
      refine wpList_nil ?_
      replace e2 := hE.eval 2 (by rfl) e2
      replace e3 := hE.eval 3 (by rfl) e3
      replace e10 := hE.eval 10 (by rfl) e10
      replace e11 := hE.eval 11 (by rfl) e11
      replace e12 := hE.eval 12 (by rfl) e12
      replace e14 := hE.eval 14 (by rfl) e14
      replace e15 := hE.eval 15 (by rfl) e15
      replace e16 := hE.eval 16 (by rfl) e16
      replace e27 := hE.eval 27 (by rfl) e27
      replace k := k.env hE
      clear hE e17 e19 e182
      refine then_n ?_
      refine cond_f e186 rfl ?_
      refine wp_skip ?_
      refine then_n ?_
      refine wp_seq ?_
      refine wp_region_lit ?_
      have hE := Env.refl a100 [198, 199, 200, 201, 202]
      apply sq_det 198 hE k rfl (by rfl) (by rfl) rfl
      case h =>
        exact x_move rfl (hE.eval 12 (by rfl) e12)
      intro a101 hE e198 kp
      apply sq_det 199 hE k rfl (by rfl) (by rfl) rfl
      case h =>
        simp [go_sem, ↓IntWalk.iteOmega, ev (hE.eval 16 (by rfl) e16)]
        with_reducible rfl
      intro a102 hE e199 kp
      replace e198 := (kp 198 rfl).trans e198
      apply sq_det 200 hE k rfl (by rfl) (by rfl) rfl
      case h =>
        have q0 : w68.cell? ⟨xb, 1, none⟩ = some (.int .i64 t) := (OwnT.blk O 7 rfl).cell 1
        have q1 : w68.cell? ⟨xb, 2, none⟩ = some (.int .i64 x) := (OwnT.blk O 7 rfl).cell 2
        simp [go_sem, ↓IntWalk.iteOmega, ev e199, q0, q1]
        with_reducible rfl
      intro a103 hE e200 kp
      replace e198 := (kp 198 rfl).trans e198
      apply sq_call 201 hE k rfl (by rfl) (by rfl) rfl
      case h =>
        simp [go_sem, ↓IntWalk.iteOmega, ev e198, ev e200]
        with_reducible exact ⟨rfl, rfl⟩
      case hc => exact qwrite_odd 0 [120] _ O hs hz (by decide) (by decide)
      clear O
      rintro e w105 ⟨rfl, O⟩
      refine ⟨_, rfl, ?_⟩
      intro a104 hE e201 kp
      apply sq_det 202 hE k rfl (by rfl) (by rfl) rfl
      case h =>
        exact x_neq rfl e201 rfl
      intro a106 hE e202 kp
      refine wpList_nil ?_
      replace e2 := hE.eval 2 (by rfl) e2
      replace e3 := hE.eval 3 (by rfl) e3
      replace e10 := hE.eval 10 (by rfl) e10
      replace e11 := hE.eval 11 (by rfl) e11
      replace e12 := hE.eval 12 (by rfl) e12
      replace e14 := hE.eval 14 (by rfl) e14
      replace e15 := hE.eval 15 (by rfl) e15
      replace k := k.env hE
      clear hE e16 e27 e186
      refine then_n ?_
      refine cond_f e202 rfl ?_
      refine wp_skip ?_
      refine block_n ?_
      exact hQ _ _ _ _ _ _ _ k e2 e3 e10 e11 e12 e14 e15 hF (hM.mono (by omega)) O
    | true =>
      rw [hf] at e19
      have hf' := of_decide_eq_true hf
      obtain ⟨y, rfl⟩ := Int.eq_ofNat_of_zero_le hf'.1
      have hyz : y + m ≤ sz := by obtain ⟨-, -, h1, h2⟩ := hf'; omega
      refine wp_seq ?_
      refine wp_region_lit ?_
      have hE := Env.refl a14 [149, 150, 151, 152, 153, 154, 155, 28]
      apply sq_det 149 hE k rfl (by rfl) (by rfl) rfl
      case h =>
        exact x_move rfl (hE.eval 12 (by rfl) e12)
      intro a107 hE e149 kp
      apply sq_det 150 hE k rfl (by rfl) (by rfl) rfl
      case h =>
        simp [go_sem, ↓IntWalk.iteOmega, ev (hE.eval 16 (by rfl) e16)]
        with_reducible rfl
      intro a108 hE e150 kp
      replace e149 := (kp 149 rfl).trans e149
      apply sq_det 151 hE k rfl (by rfl) (by rfl) rfl
      case h =>
        have q0 : w13.cell? ⟨xb, 1, none⟩ = some (.int .i64 t) := (OwnT.blk O 7 rfl).cell 1
        have q1 : w13.cell? ⟨xb, 2, none⟩ = some (.int .i64 x) := (OwnT.blk O 7 rfl).cell 2
        simp [go_sem, ↓IntWalk.iteOmega, ev e150, q0, q1]
        with_reducible rfl
      intro a109 hE e151 kp
      replace e149 := (kp 149 rfl).trans e149
      apply sq_det 152 hE k rfl (by rfl) (by rfl) rfl
      case h =>
        simp [go_sem, ↓IntWalk.iteOmega, ev (hE.eval 16 (by rfl) e16)]
        with_reducible rfl
      intro a110 hE e152 kp
      replace e149 := (kp 149 rfl).trans e149
      replace e151 := (kp 151 rfl).trans e151
      apply sq_det 153 hE k rfl (by rfl) (by rfl) rfl
      case h =>
        have q0 : w13.cell? ⟨xb, 5, none⟩ = some (.int .i64 ↑y) := (OwnT.blk O 7 rfl).cell 5
        simp [go_sem, ↓IntWalk.iteOmega, ev e152, q0]
        with_reducible rfl
      intro a111 hE e153 kp
      replace e149 := (kp 149 rfl).trans e149
      replace e151 := (kp 151 rfl).trans e151
      apply sq_det 154 hE k rfl (by rfl) (by rfl) rfl
      case h =>
        exact x_move rfl (hE.eval 27 (by rfl) e27)
      intro a112 hE e154 kp
      replace e149 := (kp 149 rfl).trans e149
      replace e151 := (kp 151 rfl).trans e151
      replace e153 := (kp 153 rfl).trans e153
      apply sq_call 155 hE k rfl (by rfl) (by rfl) rfl
      case h =>
        simp [go_sem, ↓IntWalk.iteOmega, ev e149, ev e151, ev e153, ev e154]
        with_reducible exact ⟨rfl, rfl⟩
      case hc => exact qwrite_ok y m l _ O hs hz hk hll hyz hM (by omega) hF
      clear O
      rintro e w114 ⟨rfl, La', Lb', M', hF', hM', hkd, O⟩
      refine ⟨_, rfl, ?_⟩
      intro a113 hE e155 kp
      apply sq_det 28 hE k rfl (by rfl) (by rfl) rfl
      case h =>
        exact x_assign rfl e155
      intro a115 hE e28 kp
      refine wpList_nil ?_
      replace e2 := hE.eval 2 (by rfl) e2
      replace e3 := hE.eval 3 (by rfl) e3
      replace e10 := hE.eval 10 (by rfl) e10
      replace e11 := hE.eval 11 (by rfl) e11
      replace e12 := hE.eval 12 (by rfl) e12
      replace e14 := hE.eval 14 (by rfl) e14
      replace e15 := hE.eval 15 (by rfl) e15
      replace e16 := hE.eval 16 (by rfl) e16
      replace e17 := hE.eval 17 (by rfl) e17
      replace e19 := hE.eval 19 (by rfl) e19
      replace e27 := hE.eval 27 (by rfl) e27
      replace k := k.env hE
      clear hE
      refine then_n ?_
      refine wp_seq ?_
      refine wp_seq ?_
      refine wp_region_lit ?_
      have hE := Env.refl a115 [156, 157, 158, 159, 160, 161, 162, 163, 164, 165, 166, 167, 168, 169, 170, 171, 172, 173, 174, 175, 176, 177, 178, 179, 180, 181, 182]
      apply sq_det 156 hE k rfl (by rfl) (by rfl) rfl
      case h =>
        exact x_move rfl (hE.eval 17 (by rfl) e17)
      intro a116 hE e156 kp
      apply sq_det 157 hE k rfl (by rfl) (by rfl) rfl
      case h =>
        exact x_not rfl e156
      intro a117 hE e157 kp
      apply sq_det 158 hE k rfl (by rfl) (by rfl) rfl
      case h =>
        exact x_move rfl e157
      intro a118 hE e158 kp
      refine sq_skipg 159 hE k rfl (by rfl) (by rfl) rfl rfl (.inl e158) ?_
      intro a119 hE e159 kp
      replace e158 := (kp 158 rfl).trans e158
      refine sq_skipg 160 hE k rfl (by rfl) (by rfl) rfl rfl (.inl e158) ?_
      intro a120 hE e160 kp
      replace e158 := (kp 158 rfl).trans e158
      apply sq_det 161 hE k rfl (by rfl) (by rfl) rfl
      case h =>
        exact x_pick_f rfl e158 rfl
      intro a121 hE e161 kp
      apply sq_det 162 hE k rfl (by rfl) (by rfl) rfl
      case h =>
        exact x_move rfl e161
      intro a122 hE e162 kp
      apply sq_detg 163 hE k rfl (by rfl) (by rfl) rfl rfl e162
      case h =>
        exact x_move rfl (hE.eval 17 (by rfl) e17)
      intro a123 hE e163 kp
      replace e162 := (kp 162 rfl).trans e162
      apply sq_detg 164 hE k rfl (by rfl) (by rfl) rfl rfl e162
      case h =>
        exact x_move rfl e163
      intro a124 hE e164 kp
      replace e162 := (kp 162 rfl).trans e162
      apply sq_detg 165 hE k rfl (by rfl) (by rfl) rfl rfl e164
      case h =>
        exact x_move rfl (hE.eval 19 (by rfl) e19)
      intro a125 hE e165 kp
      replace e162 := (kp 162 rfl).trans e162
      replace e164 := (kp 164 rfl).trans e164
      apply sq_detg 166 hE k rfl (by rfl) (by rfl) rfl rfl e164
      case h =>
        exact x_not rfl e165
      intro a126 hE e166 kp
      replace e162 := (kp 162 rfl).trans e162
      replace e164 := (kp 164 rfl).trans e164
      apply sq_detg 167 hE k rfl (by rfl) (by rfl) rfl rfl e162
      case h =>
        exact x_pick_t rfl e164 e166
      intro a127 hE e167 kp
      replace e162 := (kp 162 rfl).trans e162
      apply sq_detg 168 hE k rfl (by rfl) (by rfl) rfl rfl e162
      case h =>
        exact x_move rfl e167
      intro a128 hE e168 kp
      replace e162 := (kp 162 rfl).trans e162
      refine sq_skipg 169 hE k rfl (by rfl) (by rfl) rfl rfl (.inl e168) ?_
      intro a129 hE e169 kp
      replace e162 := (kp 162 rfl).trans e162
      replace e168 := (kp 168 rfl).trans e168
      refine sq_skipg 170 hE k rfl (by rfl) (by rfl) rfl rfl (.inl e168) ?_
      intro a130 hE e170 kp
      replace e162 := (kp 162 rfl).trans e162
      replace e168 := (kp 168 rfl).trans e168
      apply sq_detg 171 hE k rfl (by rfl) (by rfl) rfl rfl e162
      case h =>
        exact x_pick_f rfl e168 rfl
      intro a131 hE e171 kp
      replace e162 := (kp 162 rfl).trans e162
      apply sq_det 172 hE k rfl (by rfl) (by rfl) rfl
      case h =>
        exact x_pick_f rfl e162 e171
      intro a132 hE e172 kp
      apply sq_det 173 hE k rfl (by rfl) (by rfl) rfl
      case h =>
        exact x_move rfl e172
      intro a133 hE e173 kp
      apply sq_detg 174 hE k rfl (by rfl) (by rfl) rfl rfl e173
      case h =>
        exact x_move rfl (hE.eval 17 (by rfl) e17)
      intro a134 hE e174 kp
      replace e173 := (kp 173 rfl).trans e173
      apply sq_detg 175 hE k rfl (by rfl) (by rfl) rfl rfl e173
      case h =>
        exact x_move rfl e174
      intro a135 hE e175 kp
      replace e173 := (kp 173 rfl).trans e173
      apply sq_detg 176 hE k rfl (by rfl) (by rfl) rfl rfl e175
      case h =>
        exact x_move rfl (hE.eval 19 (by rfl) e19)
      intro a136 hE e176 kp
      replace e173 := (kp 173 rfl).trans e173
      replace e175 := (kp 175 rfl).trans e175
      apply sq_detg 177 hE k rfl (by rfl) (by rfl) rfl rfl e173
      case h =>
        exact x_pick_t rfl e175 e176
      intro a137 hE e177 kp
      replace e173 := (kp 173 rfl).trans e173
      apply sq_detg 178 hE k rfl (by rfl) (by rfl) rfl rfl e173
      case h =>
        exact x_move rfl e177
      intro a138 hE e178 kp
      replace e173 := (kp 173 rfl).trans e173
      apply sq_detg 179 hE k rfl (by rfl) (by rfl) rfl rfl e178
      case h =>
        exact x_move rfl (hE.eval 28 (by rfl) e28)
      intro a139 hE e179 kp
      replace e173 := (kp 173 rfl).trans e173
      replace e178 := (kp 178 rfl).trans e178
      apply sq_detg 180 hE k rfl (by rfl) (by rfl) rfl rfl e178
      case h =>
        exact x_neq rfl e179 rfl
      intro a140 hE e180 kp
      replace e173 := (kp 173 rfl).trans e173
      replace e178 := (kp 178 rfl).trans e178
      apply sq_detg 181 hE k rfl (by rfl) (by rfl) rfl rfl e173
      case h =>
        exact x_pick_t rfl e178 e180
      intro a141 hE e181 kp
      replace e173 := (kp 173 rfl).trans e173
      apply sq_det 182 hE k rfl (by rfl) (by rfl) rfl
      case h =>
        exact x_pick_f rfl e173 e181
      intro a142 hE e182 kp
      refine wpList_nil ?_
      replace e2 := hE.eval 2 (by rfl) e2
      replace e3 := hE.eval 3 (by rfl) e3
      replace e10 := hE.eval 10 (by rfl) e10
      replace e11 := hE.eval 11 (by rfl) e11
      replace e12 := hE.eval 12 (by rfl) e12
      replace e14 := hE.eval 14 (by rfl) e14
      replace e15 := hE.eval 15 (by rfl) e15
      replace e16 := hE.eval 16 (by rfl) e16
      replace e17 := hE.eval 17 (by rfl) e17
      replace e19 := hE.eval 19 (by rfl) e19
      replace e27 := hE.eval 27 (by rfl) e27
      replace k := k.env hE
      clear hE e28
      refine then_n ?_
      refine cond_f e182 rfl ?_
      refine wp_skip ?_
      refine then_n ?_
      refine wp_seq ?_
      refine wp_seq ?_
      refine wp_region_lit ?_
      have hE := Env.refl a142 [183, 184, 185, 186]
      apply sq_det 183 hE k rfl (by rfl) (by rfl) rfl
      case h =>
        exact x_move rfl (hE.eval 17 (by rfl) e17)
      intro a143 hE e183 kp
      apply sq_det 184 hE k rfl (by rfl) (by rfl) rfl
      case h =>
        exact x_move rfl e183
      intro a144 hE e184 kp
      apply sq_detg 185 hE k rfl (by rfl) (by rfl) rfl rfl e184
      case h =>
        exact x_move rfl (hE.eval 19 (by rfl) e19)
      intro a145 hE e185 kp
      replace e184 := (kp 184 rfl).trans e184
      apply sq_det 186 hE k rfl (by rfl) (by rfl) rfl
      case h =>
        exact x_pick_t rfl e184 e185
      intro a146 hE e186 kp
      refine wpList_nil ?_
      replace e2 := hE.eval 2 (by rfl) e2
      replace e3 := hE.eval 3 (by rfl) e3
      replace e10 := hE.eval 10 (by rfl) e10
      replace e11 := hE.eval 11 (by rfl) e11
      replace e12 := hE.eval 12 (by rfl) e12
      replace e14 := hE.eval 14 (by rfl) e14
      replace e15 := hE.eval 15 (by rfl) e15
      replace e16 := hE.eval 16 (by rfl) e16
      replace e27 := hE.eval 27 (by rfl) e27
      replace k := k.env hE
      clear hE e17 e19 e182
      refine then_n ?_
      refine cond_t e186 rfl ?_
      replace O : OwnT _ _ ([tBlk ub 107 #[.slice D1 na c1, .slice D2 nb c2, .int .i64 ↑sz], tRow 9 1 (.slice D1 na c1) na (strsV (nowL Sa La)), tRow 9 1 (.slice D2 nb c2) nb (strsV (nowL Sb Lb)), tDisc p mb B na cap bm Sa La', tMn mb M', tDisc p2 mb B2 nb cap2 bm2 Sb Lb', tBlk db 149 #[.pointer (some ⟨p, 0, none⟩), .pointer (some ⟨p2, 0, none⟩), .int .i64 ↑sz], tBlk xb 101 #[.int .i64 K, .int .i64 t, .int .i64 x, .int .i64 t2, .int .i64 x2, .int .i64 ↑y, .int .i64 N, .int .u8 ↑b.toNat]]) w114 := OwnT.pick O [4, 5, 6, 0, 1, 2, 3, 7] (by decide)
      refine wp_region_lit ?_
      have hE := Env.refl a146 [187, 188, 189, 190, 191, 192, 193, 194, 195, 196, 197]
      apply sq_det 187 hE k rfl (by rfl) (by rfl) rfl
      case h =>
        exact x_move rfl (hE.eval 14 (by rfl) e14)
      intro a147 hE e187 kp
      apply sq_det 188 hE k rfl (by rfl) (by rfl) rfl
      case h =>
        simp [go_sem, ↓IntWalk.iteOmega, ev (hE.eval 16 (by rfl) e16)]
        with_reducible rfl
      intro a148 hE e188 kp
      replace e187 := (kp 187 rfl).trans e187
      apply sq_det 189 hE k rfl (by rfl) (by rfl) rfl
      case h =>
        simp [go_sem, ↓IntWalk.iteOmega, ev e188]
        with_reducible rfl
      intro a149 hE e189 kp
      replace e187 := (kp 187 rfl).trans e187
      apply sq_det 190 hE k rfl (by rfl) (by rfl) rfl
      case h =>
        have q0 : w114.cell? ⟨xb, 1, none⟩ = some (.int .i64 t) := (OwnT.blk O 7 rfl).cell 1
        simp [go_sem, ↓IntWalk.iteOmega, ev e189, q0]
        with_reducible rfl
      intro a150 hE e190 kp
      replace e187 := (kp 187 rfl).trans e187
      apply sq_det 191 hE k rfl (by rfl) (by rfl) rfl
      case h =>
        simp [go_sem, ↓IntWalk.iteOmega, ev (hE.eval 16 (by rfl) e16)]
        with_reducible rfl
      intro a151 hE e191 kp
      replace e187 := (kp 187 rfl).trans e187
      replace e190 := (kp 190 rfl).trans e190
      apply sq_det 192 hE k rfl (by rfl) (by rfl) rfl
      case h =>
        simp [go_sem, ↓IntWalk.iteOmega, ev e191]
        with_reducible rfl
      intro a152 hE e192 kp
      replace e187 := (kp 187 rfl).trans e187
      replace e190 := (kp 190 rfl).trans e190
      apply sq_det 193 hE k rfl (by rfl) (by rfl) rfl
      case h =>
        have q0 : w114.cell? ⟨xb, 2, none⟩ = some (.int .i64 x) := (OwnT.blk O 7 rfl).cell 2
        simp [go_sem, ↓IntWalk.iteOmega, ev e192, q0]
        with_reducible rfl
      intro a153 hE e193 kp
      replace e187 := (kp 187 rfl).trans e187
      replace e190 := (kp 190 rfl).trans e190
      apply sq_det 194 hE k rfl (by rfl) (by rfl) rfl
      case h =>
        simp [go_sem, ↓IntWalk.iteOmega, ev (hE.eval 16 (by rfl) e16)]
        with_reducible rfl
      intro a154 hE e194 kp
      replace e187 := (kp 187 rfl).trans e187
      replace e190 := (kp 190 rfl).trans e190
      replace e193 := (kp 193 rfl).trans e193
      apply sq_det 195 hE k rfl (by rfl) (by rfl) rfl
      case h =>
        have q0 : w114.cell? ⟨xb, 5, none⟩ = some (.int .i64 ↑y) := (OwnT.blk O 7 rfl).cell 5
        simp [go_sem, ↓IntWalk.iteOmega, ev e194, q0]
        with_reducible rfl
      intro a155 hE e195 kp
      replace e187 := (kp 187 rfl).trans e187
      replace e190 := (kp 190 rfl).trans e190
      replace e193 := (kp 193 rfl).trans e193
      apply sq_det 196 hE k rfl (by rfl) (by rfl) rfl
      case h =>
        exact x_move rfl (hE.eval 27 (by rfl) e27)
      intro a156 hE e196 kp
      replace e187 := (kp 187 rfl).trans e187
      replace e190 := (kp 190 rfl).trans e190
      replace e193 := (kp 193 rfl).trans e193
      replace e195 := (kp 195 rfl).trans e195
      apply sq_call 197 hE k rfl (by rfl) (by rfl) rfl
      case h =>
        simp [go_sem, ↓IntWalk.iteOmega, ev e187, ev e190, ev e193, ev e195, ev e196]
        with_reducible exact ⟨rfl, rfl⟩
      case hc => exact uput y m l _ O hs hlA hlB hnA hnB hk hkd hll hyz
      clear O
      rintro e w158 ⟨rfl, O⟩
      refine ⟨_, rfl, ?_⟩
      intro a157 hE e197 kp
      refine wpList_nil ?_
      replace e2 := hE.eval 2 (by rfl) e2
      replace e3 := hE.eval 3 (by rfl) e3
      replace e10 := hE.eval 10 (by rfl) e10
      replace e11 := hE.eval 11 (by rfl) e11
      replace e12 := hE.eval 12 (by rfl) e12
      replace e14 := hE.eval 14 (by rfl) e14
      replace e15 := hE.eval 15 (by rfl) e15
      replace e16 := hE.eval 16 (by rfl) e16
      replace k := k.env hE
      clear hE e27 e186 e197
      refine then_n ?_
      replace O : OwnT _ _ ([tDisc p mb B na cap bm Sa La', tMn mb M', tDisc p2 mb B2 nb cap2 bm2 Sb Lb', tBlk db 149 #[.pointer (some ⟨p, 0, none⟩), .pointer (some ⟨p2, 0, none⟩), .int .i64 ↑sz], tBlk ub 107 #[.slice D1 na c1, .slice D2 nb c2, .int .i64 ↑sz], tRow 9 1 (.slice D1 na c1) na (strsV (nowL Sa La')), tRow 9 1 (.slice D2 nb c2) nb (strsV (nowL Sb Lb')), tBlk xb 101 #[.int .i64 K, .int .i64 t, .int .i64 x, .int .i64 t2, .int .i64 x2, .int .i64 ↑y, .int .i64 N, .int .u8 ↑b.toNat]]) w158 := OwnT.pick O [3, 4, 5, 6, 0, 1, 2, 7] (by decide)
      refine wp_seq ?_
      refine wp_region_lit ?_
      have hE := Env.refl a157 [198, 199, 200, 201, 202]
      apply sq_det 198 hE k rfl (by rfl) (by rfl) rfl
      case h =>
        exact x_move rfl (hE.eval 12 (by rfl) e12)
      intro a159 hE e198 kp
      apply sq_det 199 hE k rfl (by rfl) (by rfl) rfl
      case h =>
        simp [go_sem, ↓IntWalk.iteOmega, ev (hE.eval 16 (by rfl) e16)]
        with_reducible rfl
      intro a160 hE e199 kp
      replace e198 := (kp 198 rfl).trans e198
      apply sq_det 200 hE k rfl (by rfl) (by rfl) rfl
      case h =>
        have q0 : w158.cell? ⟨xb, 1, none⟩ = some (.int .i64 t) := (OwnT.blk O 7 rfl).cell 1
        have q1 : w158.cell? ⟨xb, 2, none⟩ = some (.int .i64 x) := (OwnT.blk O 7 rfl).cell 2
        simp [go_sem, ↓IntWalk.iteOmega, ev e199, q0, q1]
        with_reducible rfl
      intro a161 hE e200 kp
      replace e198 := (kp 198 rfl).trans e198
      apply sq_call 201 hE k rfl (by rfl) (by rfl) rfl
      case h =>
        simp [go_sem, ↓IntWalk.iteOmega, ev e198, ev e200]
        with_reducible exact ⟨rfl, rfl⟩
      case hc => exact qwrite_odd 0 [120] _ O hs hz (by decide) (by decide)
      clear O
      rintro e w163 ⟨rfl, O⟩
      refine ⟨_, rfl, ?_⟩
      intro a162 hE e201 kp
      apply sq_det 202 hE k rfl (by rfl) (by rfl) rfl
      case h =>
        exact x_neq rfl e201 rfl
      intro a164 hE e202 kp
      refine wpList_nil ?_
      replace e2 := hE.eval 2 (by rfl) e2
      replace e3 := hE.eval 3 (by rfl) e3
      replace e10 := hE.eval 10 (by rfl) e10
      replace e11 := hE.eval 11 (by rfl) e11
      replace e12 := hE.eval 12 (by rfl) e12
      replace e14 := hE.eval 14 (by rfl) e14
      replace e15 := hE.eval 15 (by rfl) e15
      replace k := k.env hE
      clear hE e16
      refine then_n ?_
      refine cond_f e202 rfl ?_
      refine wp_skip ?_
      refine block_n ?_
      exact hQ _ _ _ _ _ _ _ k e2 e3 e10 e11 e12 e14 e15 hF' (hM'.mono (by omega)) O
set_option maxRecDepth 100000 in
set_option maxHeartbeats 4000000 in
theorem ck_read {H : Nat} {A0 : World} {p mb cap bm db p2 cap2 bm2 na nb sz ub c1 c2 xb i len capA : Nat} {B B2 D1 D2 A : Option Addr} {Sa Sb : List Sec} {La Lb : Int → Option Sec} {M : Mn} {c : Int} {b : UInt8} {Q : Exit → Act → World → Prop} {t : Int} {x t2 x2 y N : Int} {m : Nat} (a : Act) (w : World) (k : Fr 479 a)
    (e2 : a.eval (.tmp 2) = .int .i64 ↑sz) (e3 : a.eval (.tmp 3) = .slice A len capA) (e10 : a.eval (.tmp 10) = .pointer (some ⟨p, 0, none⟩)) (e11 : a.eval (.tmp 11) = .pointer (some ⟨p2, 0, none⟩)) (e12 : a.eval (.tmp 12) = .pointer (some ⟨db, 0, none⟩)) (e14 : a.eval (.tmp 14) = .pointer (some ⟨ub, 0, none⟩)) (e15 : a.eval (.tmp 15) = .int .i64 ↑i) (e16 : a.eval (.tmp 16) = .pointer (some ⟨xb, 0, none⟩)) (e17 : a.eval (.tmp 17) = .bool (isK sz na nb t x)) (e18 : a.eval (.tmp 18) = .int .i64 ↑m) (e19 : a.eval (.tmp 19) = .bool (fitsB sz y m)) (e144 : a.eval (.tmp 144) = .int .i64 3)
    (O : OwnT H A0 [tDisc p mb B na cap bm Sa La, tMn mb M, tDisc p2 mb B2 nb cap2 bm2 Sb Lb, tBlk db 149 #[.pointer (some ⟨p, 0, none⟩), .pointer (some ⟨p2, 0, none⟩), .int .i64 ↑sz], tBlk ub 107 #[.slice D1 na c1, .slice D2 nb c2, .int .i64 ↑sz], tRow 9 1 (.slice D1 na c1) na (strsV (nowL Sa La)), tRow 9 1 (.slice D2 nb c2) nb (strsV (nowL Sb Lb)), tBlk xb 101 #[.int .i64 3, .int .i64 t, .int .i64 x, .int .i64 t2, .int .i64 x2, .int .i64 y, .int .i64 N, .int .u8 ↑b.toNat]] w) (hs : 0 < sz) (hz : sz ≤ 8) (hF : M.Free) (hM : M.Ok c) (hc : c ≤ 100000) (hm : m ≤ 10)
    (hQ : ∀ a w Sa' Sb' La' Lb' M', Fr 479 a → a.eval (.tmp 2) = .int .i64 ↑sz → a.eval (.tmp 3) = .slice A len capA → a.eval (.tmp 10) = .pointer (some ⟨p, 0, none⟩) → a.eval (.tmp 11) = .pointer (some ⟨p2, 0, none⟩) → a.eval (.tmp 12) = .pointer (some ⟨db, 0, none⟩) → a.eval (.tmp 14) = .pointer (some ⟨ub, 0, none⟩) → a.eval (.tmp 15) = .int .i64 ↑i → M'.Free → M'.Ok (c + 20) → OwnT H A0 [tDisc p mb B na cap bm Sa' La', tMn mb M', tDisc p2 mb B2 nb cap2 bm2 Sb' Lb', tBlk db 149 #[.pointer (some ⟨p, 0, none⟩), .pointer (some ⟨p2, 0, none⟩), .int .i64 ↑sz], tBlk ub 107 #[.slice D1 na c1, .slice D2 nb c2, .int .i64 ↑sz], tRow 9 1 (.slice D1 na c1) na (strsV (nowL Sa' La')), tRow 9 1 (.slice D2 nb c2) nb (strsV (nowL Sb' Lb')), tBlk xb 101 #[.int .i64 3, .int .i64 t, .int .i64 x, .int .i64 t2, .int .i64 x2, .int .i64 y, .int .i64 N, .int .u8 ↑b.toNat]] w → Q .normal a w) : Code.wp Try.prog (codeAt [1, 1, 1, 1, 1, 1, 1, 1, 1, 1, 0, 1, 0, 0, 1, 0, 0, 1, 1, 1, 1, 0, 1] (Try.f10.body.getD .skip)) Q a w := by
  conv => arg 2; whnf
  have hDA := (OwnT.discAt O 0 rfl).ok
  have hDB := (OwnT.discAt O 2 rfl).ok
  have hnA := hDA.le
  have hnB := hDB.le
  have hlA := hDA.len
  have hlB := hDB.len
  cases hk : isK sz na nb t x with
  | false =>
    refine wp_block ?_
    refine wp_seq ?_
    refine wp_region_lit ?_
    have hE := Env.refl a [204, 203]
    apply sq_det 204 hE k rfl (by rfl) (by rfl) rfl
    case h =>
      exact x_eql rfl (hE.eval 144 (by rfl) e144) rfl
    intro a1 hE e204 kp
    apply sq_det 203 hE k rfl (by rfl) (by rfl) rfl
    case h =>
      exact x_assign rfl e204
    intro a2 hE e203 kp
    refine wpList_nil ?_
    replace e2 := hE.eval 2 (by rfl) e2
    replace e3 := hE.eval 3 (by rfl) e3
    replace e10 := hE.eval 10 (by rfl) e10
    replace e11 := hE.eval 11 (by rfl) e11
    replace e12 := hE.eval 12 (by rfl) e12
    replace e14 := hE.eval 14 (by rfl) e14
    replace e15 := hE.eval 15 (by rfl) e15
    replace e16 := hE.eval 16 (by rfl) e16
    replace e17 := hE.eval 17 (by rfl) e17
    replace e18 := hE.eval 18 (by rfl) e18
    replace e19 := hE.eval 19 (by rfl) e19
    replace e144 := hE.eval 144 (by rfl) e144
    replace k := k.env hE
    clear hE
    refine then_n ?_
    refine cond_t e203 rfl ?_
    refine wp_seq ?_
    refine wp_region_lit ?_
    have hE := Env.refl a2 [206, 207, 208, 209, 210, 211, 212, 213, 205, 214, 215, 20, 21]
    apply sq_det 206 hE k rfl (by rfl) (by rfl) rfl
    case h =>
      exact x_move rfl (hE.eval 12 (by rfl) e12)
    intro a3 hE e206 kp
    apply sq_det 207 hE k rfl (by rfl) (by rfl) rfl
    case h =>
      simp [go_sem, ↓IntWalk.iteOmega, ev (hE.eval 16 (by rfl) e16)]
      with_reducible rfl
    intro a4 hE e207 kp
    replace e206 := (kp 206 rfl).trans e206
    apply sq_det 208 hE k rfl (by rfl) (by rfl) rfl
    case h =>
      have q0 : w.cell? ⟨xb, 1, none⟩ = some (.int .i64 t) := (OwnT.blk O 7 rfl).cell 1
      have q1 : w.cell? ⟨xb, 2, none⟩ = some (.int .i64 x) := (OwnT.blk O 7 rfl).cell 2
      simp [go_sem, ↓IntWalk.iteOmega, ev e207, q0, q1]
      with_reducible rfl
    intro a5 hE e208 kp
    replace e206 := (kp 206 rfl).trans e206
    apply sq_det 209 hE k rfl (by rfl) (by rfl) rfl
    case h =>
      simp [go_sem, ↓IntWalk.iteOmega, ev (hE.eval 16 (by rfl) e16)]
      with_reducible rfl
    intro a6 hE e209 kp
    replace e206 := (kp 206 rfl).trans e206
    replace e208 := (kp 208 rfl).trans e208
    apply sq_det 210 hE k rfl (by rfl) (by rfl) rfl
    case h =>
      have q0 : w.cell? ⟨xb, 5, none⟩ = some (.int .i64 y) := (OwnT.blk O 7 rfl).cell 5
      simp [go_sem, ↓IntWalk.iteOmega, ev e209, q0]
      with_reducible rfl
    intro a7 hE e210 kp
    replace e206 := (kp 206 rfl).trans e206
    replace e208 := (kp 208 rfl).trans e208
    apply sq_det 211 hE k rfl (by rfl) (by rfl) rfl
    case h =>
      simp [go_sem, ↓IntWalk.iteOmega, ev (hE.eval 16 (by rfl) e16)]
      with_reducible rfl
    intro a8 hE e211 kp
    replace e206 := (kp 206 rfl).trans e206
    replace e208 := (kp 208 rfl).trans e208
    replace e210 := (kp 210 rfl).trans e210
    apply sq_det 212 hE k rfl (by rfl) (by rfl) rfl
    case h =>
      have q0 : w.cell? ⟨xb, 6, none⟩ = some (.int .i64 N) := (OwnT.blk O 7 rfl).cell 6
      simp [go_sem, ↓IntWalk.iteOmega, ev e211, q0]
      with_reducible rfl
    intro a9 hE e212 kp
    replace e206 := (kp 206 rfl).trans e206
    replace e208 := (kp 208 rfl).trans e208
    replace e210 := (kp 210 rfl).trans e210
    apply sq_call 213 hE k rfl (by rfl) (by rfl) rfl
    case h =>
      simp [go_sem, ↓IntWalk.iteOmega, ev e206, ev e208, ev e210, ev e212]
      with_reducible exact ⟨rfl, rfl⟩
    case hc => exact qread_bad y N _ O hs hk
    rintro e w11 ⟨rfl, R⟩
    replace O := OwnT.ext O R
    refine ⟨_, rfl, ?_⟩
    intro a10 hE e213 kp
    apply sq_det 205 hE k rfl (by rfl) (by rfl) rfl
    case h =>
      exact x_move rfl e213
    intro a12 hE e205 kp
    apply sq_det 214 hE k rfl (by rfl) (by rfl) rfl
    case h =>
      simp [go_sem, ↓IntWalk.iteOmega, ev e205]
      with_reducible rfl
    intro a13 hE e214 kp
    replace e205 := (kp 205 rfl).trans e205
    apply sq_det 215 hE k rfl (by rfl) (by rfl) rfl
    case h =>
      simp [go_sem, ↓IntWalk.iteOmega, ev e205]
      with_reducible rfl
    intro a14 hE e215 kp
    replace e214 := (kp 214 rfl).trans e214
    apply sq_det 20 hE k rfl (by rfl) (by rfl) rfl
    case h =>
      exact x_assign rfl e214
    intro a15 hE e20 kp
    replace e215 := (kp 215 rfl).trans e215
    apply sq_det 21 hE k rfl (by rfl) (by rfl) rfl
    case h =>
      exact x_assign rfl e215
    intro a16 hE e21 kp
    replace e20 := (kp 20 rfl).trans e20
    refine wpList_nil ?_
    replace e2 := hE.eval 2 (by rfl) e2
    replace e3 := hE.eval 3 (by rfl) e3
    replace e10 := hE.eval 10 (by rfl) e10
    replace e11 := hE.eval 11 (by rfl) e11
    replace e12 := hE.eval 12 (by rfl) e12
    replace e14 := hE.eval 14 (by rfl) e14
    replace e15 := hE.eval 15 (by rfl) e15
    replace e16 := hE.eval 16 (by rfl) e16
    replace e17 := hE.eval 17 (by rfl) e17
    replace k := k.env hE
    clear hE e18 e19 e144 e203
    refine then_n ?_
    refine wp_seq ?_
    refine ck_fit32 (c := c) (v20 := (.string (sB ([])))) (v21 := (.int .i64 1)) (m := m) _ _ k e2 e3 e10 e11 e12 e14 e15 e16 e17 e20 e21 O hz hm ?_
    clear O
    intro a17 w18 k e2 e3 e10 e11 e12 e14 e15 e16 e17 e20 e21 e22 O
    refine then_n ?_
    rw [hk] at e17
    refine wp_seq ?_
    refine wp_typed (R := Ext) (w0 := w18) [[], [0], [0, 1], [0, 1, 2], [0, 1, 2, 3], [0, 1, 2, 3, 4], [0, 1, 2, 3, 4, 5], [0, 1, 2, 3, 4, 5, 6], [0, 1, 2, 3, 4, 5, 6, 7], [0, 1, 2, 3, 4, 5, 6, 7, 8], [0, 1, 2, 3, 4, 5, 6, 7, 8, 9], [0, 1, 2, 3, 4, 5, 6, 7, 8, 9, 10], [0, 1, 2, 3, 4, 5, 6, 7, 8, 9, 10, 11], [0, 1, 2, 3, 4, 5, 6, 7, 8, 9, 10, 11, 12], [0, 1, 2, 3, 4, 5, 6, 7, 8, 9, 10, 11, 12, 13], [0, 1, 2, 3, 4, 5, 6, 7, 8, 9, 10, 11, 12, 13, 14], [0, 1, 2, 3, 4, 5, 6, 7, 8, 9, 10, 11, 12, 13, 14, 15], [0, 1, 2, 3, 4, 5, 6, 7, 8, 9, 10, 11, 12, 13, 14, 15, 16], [0, 1, 2, 3, 4, 5, 6, 7, 8, 9, 10, 11, 12, 13, 14, 15, 16, 17], [0, 1, 2, 3, 4, 5, 6, 7, 8, 9, 10, 11, 12, 13, 14, 15, 16, 17, 18], [0, 1, 2, 3, 4, 5, 6, 7, 8, 9, 10, 11, 12, 13, 14, 15, 16, 17, 18, 19], [0, 1, 2, 3, 4, 5, 6, 7, 8, 9, 10, 11, 12, 13, 14, 15, 16, 17, 18, 19, 20], [0, 1, 2, 3, 4, 5, 6, 7, 8, 9, 10, 11, 12, 13, 14, 15, 16, 17, 18, 19, 20, 21], [0, 1, 2, 3, 4, 5, 6, 7, 8, 9, 10, 11, 12, 13, 14, 15, 16, 17, 18, 19, 20, 21, 22], [0, 1, 2, 3, 4, 5, 6, 7, 8, 9, 10, 11, 12, 13, 14, 15, 16, 17, 18, 19, 20, 21, 22, 23], [0, 1, 2, 3, 4, 5, 6, 7, 8, 9, 10, 11, 12, 13, 14, 15, 16, 17, 18, 19, 20, 21, 22, 23, 24], [0, 1, 2, 3, 4, 5, 6, 7, 8, 9, 10, 11, 12, 13, 14, 15, 16, 17, 18, 19, 20, 21, 22, 23, 24, 25], [0, 1, 2, 3, 4, 5, 6, 7, 8, 9, 10, 11, 12, 13, 14, 15, 16, 17, 18, 19, 20, 21, 22, 23, 24, 25], [0, 1, 2, 3, 4, 5, 6, 7, 8, 9, 10, 11, 12, 13, 14, 15, 16, 17, 18, 19, 20, 21, 22, 23, 24, 25], [0, 1, 2, 3, 4, 5, 6, 7, 8, 9, 10, 11, 12, 13, 14, 15, 16, 17, 18, 19, 20, 21, 22, 23, 24, 25, 28], [0, 1, 2, 3, 4, 5, 6, 7, 8, 9, 10, 11, 12, 13, 14, 15, 16, 17, 18, 19, 20, 21, 22, 23, 24, 25, 28, 29], [0, 1, 2, 3, 4, 5, 6, 7, 8, 9, 10, 11, 12, 13, 14, 15, 16, 17, 18, 19, 20, 21, 22, 23, 24, 25], [0, 1, 2, 3, 4, 5, 6, 7, 8, 9, 10, 11, 12, 13, 14, 15, 16, 17, 18, 19, 20, 21, 22, 23, 24, 25, 31], [0, 1, 2, 3, 4, 5, 6, 7, 8, 9, 10, 11, 12, 13, 14, 15, 16, 17, 18, 19, 20, 21, 22, 23, 24, 25, 31, 32], [0, 1, 2, 3, 4, 5, 6, 7, 8, 9, 10, 11, 12, 13, 14, 15, 16, 17, 18, 19, 20, 21, 22, 23, 24, 25, 27, 28, 29, 30, 31, 32, 33], [0, 1, 2, 3, 4, 5, 6, 7, 8, 9, 10, 11, 12, 13, 14, 15, 16, 17, 18, 19, 20, 21, 22, 23, 24, 25], [0, 1, 2, 3, 4, 5, 6, 7, 8, 9, 10, 11, 12, 13, 14, 15, 16, 17, 18, 19, 20, 21, 22, 23, 24, 25, 35], [0, 1, 2, 3, 4, 5, 6, 7, 8, 9, 10, 11, 12, 13, 14, 15, 16, 17, 18, 19, 20, 21, 22, 23, 24, 25, 35, 36], [0, 1, 2, 3, 4, 5, 6, 7, 8, 9, 10, 11, 12, 13, 14, 15, 16, 17, 18, 19, 20, 21, 22, 23, 24, 25], [0, 1, 2, 3, 4, 5, 6, 7, 8, 9, 10, 11, 12, 13, 14, 15, 16, 17, 18, 19, 20, 21, 22, 23, 24, 25, 38], [0, 1, 2, 3, 4, 5, 6, 7, 8, 9, 10, 11, 12, 13, 14, 15, 16, 17, 18, 19, 20, 21, 22, 23, 24, 25], [0, 1, 2, 3, 4, 5, 6, 7, 8, 9, 10, 11, 12, 13, 14, 15, 16, 17, 18, 19, 20, 21, 22, 23, 24, 25, 40], [0, 1, 2, 3, 4, 5, 6, 7, 8, 9, 10, 11, 12, 13, 14, 15, 16, 17, 18, 19, 20, 21, 22, 23, 24, 25, 38, 39, 40, 41], [0, 1, 2, 3, 4, 5, 6, 7, 8, 9, 10, 11, 12, 13, 14, 15, 16, 17, 18, 19, 20, 21, 22, 23, 24, 25, 38, 39, 40, 41, 42], [0, 1, 2, 3, 4, 5, 6, 7, 8, 9, 10, 11, 12, 13, 14, 15, 16, 17, 18, 19, 20, 21, 22, 23, 24, 25, 27, 28, 29, 30, 31, 32, 33, 34, 35, 36, 37, 38, 39, 40, 41, 42, 43], [0, 1, 2, 3, 4, 5, 6, 7, 8, 9, 10, 11, 12, 13, 14, 15, 16, 17, 18, 19, 20, 21, 22, 23, 24, 25, 26, 27, 28, 29, 30, 31, 32, 33, 34, 35, 36, 37, 38, 39, 40, 41, 42, 43, 44], [0, 1, 2, 3, 4, 5, 6, 7, 8, 9, 10, 11, 12, 13, 14, 15, 16, 17, 18, 19, 20, 21, 22, 23, 24, 25, 26, 27, 28, 29, 30, 31, 32, 33, 34, 35, 36, 37, 38, 39, 40, 41, 42, 43, 44, 45], [0, 1, 2, 3, 4, 5, 6, 7, 8, 9, 10, 11, 12, 13, 14, 15, 16, 17, 18, 19, 20, 21, 22, 23, 24, 25, 26, 27, 28, 29, 30, 31, 32, 33, 34, 35, 36, 37, 38, 39, 40, 41, 42, 43, 44, 45, 46], [0, 1, 2, 3, 4, 5, 6, 7, 8, 9, 10, 11, 12, 13, 14, 15, 16, 17, 18, 19, 20, 21, 22, 23, 24, 25, 26, 27, 28, 29, 30, 31, 32, 33, 34, 35, 36, 37, 38, 39, 40, 41, 42, 43, 44, 45, 46, 47], [0, 1, 2, 3, 4, 5, 6, 7, 8, 9, 10, 11, 12, 13, 14, 15, 16, 17, 18, 19, 20, 21, 22, 23, 24, 25, 26, 27, 28, 29, 30, 31, 32, 33, 34, 35, 36, 37, 38, 39, 40, 41, 42, 43, 44, 45, 46, 47, 48], [0, 1, 2, 3, 4, 5, 6, 7, 8, 9, 10, 11, 12, 13, 14, 15, 16, 17, 18, 19, 20, 21, 22, 23, 24, 25, 26, 27, 28, 29, 30, 31, 32, 33, 34, 35, 36, 37, 38, 39, 40, 41, 42, 43, 44, 45, 46, 47, 48, 49], [0, 1, 2, 3, 4, 5, 6, 7, 8, 9, 10, 11, 12, 13, 14, 15, 16, 17, 18, 19, 20, 21, 22, 23, 24, 25, 26, 27, 28, 29, 30, 31, 32, 33, 34, 35, 36, 37, 38, 39, 40, 41, 42, 43, 44, 45, 46, 47, 48, 49, 50], [0, 1, 2, 3, 4, 5, 6, 7, 8, 9, 10, 11, 12, 13, 14, 15, 16, 17, 18, 19, 20, 21, 22, 23, 24, 25, 26, 27, 28, 29, 30, 31, 32, 33, 34, 35, 36, 37, 38, 39, 40, 41, 42, 43, 44, 45, 46, 47, 48, 49, 50, 51], [0, 1, 2, 3, 4, 5, 6, 7, 8, 9, 10, 11, 12, 13, 14, 15, 16, 17, 18, 19, 20, 21, 22, 23, 24, 25, 26, 27, 28, 29, 30, 31, 32, 33, 34, 35, 36, 37, 38, 39, 40, 41, 42, 43, 44, 45, 46, 47, 48, 49, 50, 51, 52], [0, 1, 2, 3, 4, 5, 6, 7, 8, 9, 10, 11, 12, 13, 14, 15, 16, 17, 18, 19, 20, 21, 22, 23, 24, 25, 26, 27, 28, 29, 30, 31, 32, 33, 34, 35, 36, 37, 38, 39, 40, 41, 42, 43, 44, 45, 46, 47, 48, 49, 50, 51, 52, 53], [0, 1, 2, 3, 4, 5, 6, 7, 8, 9, 10, 11, 12, 13, 14, 15, 16, 17, 18, 19, 20, 21, 22, 23, 24, 25, 26, 27, 28, 29, 30, 31, 32, 33, 34, 35, 36, 37, 38, 39, 40, 41, 42, 43, 44, 45, 46, 47, 48, 49, 50, 51, 52, 53, 54], [0, 1, 2, 3, 4, 5, 6, 7, 8, 9, 10, 11, 12, 13, 14, 15, 16, 17, 18, 19, 20, 21, 22, 23, 24, 25, 26, 27, 28, 29, 30, 31, 32, 33, 34, 35, 36, 37, 38, 39, 40, 41, 42, 43, 44, 45, 46, 47, 48, 49, 50, 51, 52, 53, 54, 55]] [239, 240, 241, 242, 243, 244, 245, 246, 247, 248, 249, 250, 251, 252, 253, 254, 255, 256, 257, 258, 259, 260, 261, 262, 263, 264, 265, 266, 267, 268, 269, 270, 271, 272, 273, 274, 275, 276, 277, 278, 279, 280, 281, 282, 283, 284, 285, 286, 287, 288, 289, 290, 291, 292, 293, 294, 295] Ext.refl (fun _ _ _ => Ext.trans) (Ext.drew _) (by kernel_rfl) ?_
    apply Build.det 239 Ext.refl (by rfl) (by rw [k.size]; rfl) rfl
    case h =>
      intro ax wx hE hR hF
      exact x_move rfl (hE.eval 17 (by rfl) e17)
    apply Build.det 240 Ext.refl (by rfl) (by rw [k.size]; rfl) rfl
    case h =>
      intro ax wx hE hR hF
      have e239 : ax.eval (.tmp 239) = _ := hF 0 (det 239 _) (by decide) (.head _)
      exact x_not rfl e239
    apply Build.det 241 Ext.refl (by rfl) (by rw [k.size]; rfl) rfl
    case h =>
      intro ax wx hE hR hF
      have e240 : ax.eval (.tmp 240) = _ := hF 1 (det 240 _) (by decide) (.head _)
      exact x_move rfl e240
    apply Build.detg 242 Ext.refl (by rfl) (by rw [k.size]; rfl) rfl rfl
    case h =>
      intro ax wx hE hR hF
      have e241 : ax.eval (.tmp 241) = _ := hF 2 (det 241 _) (by decide) (.head _)
      refine ⟨e241, ?_⟩
      exact x_move rfl (hE.eval 21 (by rfl) e21)
    apply Build.detg 243 Ext.refl (by rfl) (by rw [k.size]; rfl) rfl rfl
    case h =>
      intro ax wx hE hR hF
      have e242 : ax.eval (.tmp 242) = _ := hF 3 (det 242 _) (by decide) (.head _)
      have e241 : ax.eval (.tmp 241) = _ := hF 2 (det 241 _) (by decide) (.tail _ (.head _))
      refine ⟨e241, ?_⟩
      exact x_neq rfl e242 rfl
    apply Build.det 244 Ext.refl (by rfl) (by rw [k.size]; rfl) rfl
    case h =>
      intro ax wx hE hR hF
      have e241 : ax.eval (.tmp 241) = _ := hF 2 (det 241 _) (by decide) (.tail _ (.tail _ (.head _)))
      have e243 : ax.eval (.tmp 243) = _ := hF 4 (det 243 _) (by decide) (.head _)
      exact x_pick_t rfl e241 e243
    apply Build.det 245 Ext.refl (by rfl) (by rw [k.size]; rfl) rfl
    case h =>
      intro ax wx hE hR hF
      have e244 : ax.eval (.tmp 244) = _ := hF 5 (det 244 _) (by decide) (.head _)
      exact x_move rfl e244
    apply Build.detg 246 Ext.refl (by rfl) (by rw [k.size]; rfl) rfl rfl
    case h =>
      intro ax wx hE hR hF
      have e245 : ax.eval (.tmp 245) = _ := hF 6 (det 245 _) (by decide) (.head _)
      refine ⟨e245, ?_⟩
      exact x_move rfl (hE.eval 17 (by rfl) e17)
    apply Build.detg 247 Ext.refl (by rfl) (by rw [k.size]; rfl) rfl rfl
    case h =>
      intro ax wx hE hR hF
      have e246 : ax.eval (.tmp 246) = _ := hF 7 (det 246 _) (by decide) (.head _)
      have e245 : ax.eval (.tmp 245) = _ := hF 6 (det 245 _) (by decide) (.tail _ (.head _))
      refine ⟨e245, ?_⟩
      exact x_move rfl e246
    refine Build.skip 248 (by rfl) (by rw [k.size]; rfl) rfl rfl ?_ ?_
    · intro ax wx hE hR hF
      have e247 : ax.eval (.tmp 247) = _ := hF 8 (det 247 _) (by decide) (.head _)
      exact e247
    refine Build.skip 249 (by rfl) (by rw [k.size]; rfl) rfl rfl ?_ ?_
    · intro ax wx hE hR hF
      have e247 : ax.eval (.tmp 247) = _ := hF 8 (det 247 _) (by decide) (.tail _ (.head _))
      exact e247
    apply Build.detg 250 Ext.refl (by rfl) (by rw [k.size]; rfl) rfl rfl
    case h =>
      intro ax wx hE hR hF
      have e247 : ax.eval (.tmp 247) = _ := hF 8 (det 247 _) (by decide) (.tail _ (.tail _ (.head _)))
      have e249 : ax.eval (.tmp 249) = _ := hF 10 (det 249 _) (by decide) (.head _)
      have e245 : ax.eval (.tmp 245) = _ := hF 6 (det 245 _) (by decide) (.tail _ (.tail _ (.tail _ (.tail _ (.head _)))))
      refine ⟨e245, ?_⟩
      exact x_pick_f rfl e247 rfl
    apply Build.detg 251 Ext.refl (by rfl) (by rw [k.size]; rfl) rfl rfl
    case h =>
      intro ax wx hE hR hF
      have e250 : ax.eval (.tmp 250) = _ := hF 11 (det 250 _) (by decide) (.head _)
      have e245 : ax.eval (.tmp 245) = _ := hF 6 (det 245 _) (by decide) (.tail _ (.tail _ (.tail _ (.tail _ (.tail _ (.head _))))))
      refine ⟨e245, ?_⟩
      exact x_move rfl e250
    refine Build.skip 252 (by rfl) (by rw [k.size]; rfl) rfl rfl ?_ ?_
    · intro ax wx hE hR hF
      have e251 : ax.eval (.tmp 251) = _ := hF 12 (det 251 _) (by decide) (.head _)
      exact e251
    refine Build.skip 253 (by rfl) (by rw [k.size]; rfl) rfl rfl ?_ ?_
    · intro ax wx hE hR hF
      have e251 : ax.eval (.tmp 251) = _ := hF 12 (det 251 _) (by decide) (.tail _ (.head _))
      exact e251
    apply Build.detg 254 Ext.refl (by rfl) (by rw [k.size]; rfl) rfl rfl
    case h =>
      intro ax wx hE hR hF
      have e251 : ax.eval (.tmp 251) = _ := hF 12 (det 251 _) (by decide) (.tail _ (.tail _ (.head _)))
      have e253 : ax.eval (.tmp 253) = _ := hF 14 (det 253 _) (by decide) (.head _)
      have e245 : ax.eval (.tmp 245) = _ := hF 6 (det 245 _) (by decide) (.tail _ (.tail _ (.tail _ (.tail _ (.tail _ (.tail _ (.tail _ (.tail _ (.head _)))))))))
      refine ⟨e245, ?_⟩
      exact x_pick_f rfl e251 rfl
    apply Build.det 255 Ext.refl (by rfl) (by rw [k.size]; rfl) rfl
    case h =>
      intro ax wx hE hR hF
      have e245 : ax.eval (.tmp 245) = _ := hF 6 (det 245 _) (by decide) (.tail _ (.tail _ (.tail _ (.tail _ (.tail _ (.tail _ (.tail _ (.tail _ (.tail _ (.head _))))))))))
      have e254 : ax.eval (.tmp 254) = _ := hF 15 (det 254 _) (by decide) (.head _)
      exact x_pick_f rfl e245 e254
    apply Build.det 256 Ext.refl (by rfl) (by rw [k.size]; rfl) rfl
    case h =>
      intro ax wx hE hR hF
      have e255 : ax.eval (.tmp 255) = _ := hF 16 (det 255 _) (by decide) (.head _)
      exact x_move rfl e255
    apply Build.detg 257 Ext.refl (by rfl) (by rw [k.size]; rfl) rfl rfl
    case h =>
      intro ax wx hE hR hF
      have e256 : ax.eval (.tmp 256) = _ := hF 17 (det 256 _) (by decide) (.head _)
      refine ⟨e256, ?_⟩
      exact x_move rfl (hE.eval 17 (by rfl) e17)
    apply Build.detg 258 Ext.refl (by rfl) (by rw [k.size]; rfl) rfl rfl
    case h =>
      intro ax wx hE hR hF
      have e257 : ax.eval (.tmp 257) = _ := hF 18 (det 257 _) (by decide) (.head _)
      have e256 : ax.eval (.tmp 256) = _ := hF 17 (det 256 _) (by decide) (.tail _ (.head _))
      refine ⟨e256, ?_⟩
      exact x_move rfl e257
    refine Build.skip 259 (by rfl) (by rw [k.size]; rfl) rfl rfl ?_ ?_
    · intro ax wx hE hR hF
      have e258 : ax.eval (.tmp 258) = _ := hF 19 (det 258 _) (by decide) (.head _)
      exact e258
    apply Build.detg 260 Ext.refl (by rfl) (by rw [k.size]; rfl) rfl rfl
    case h =>
      intro ax wx hE hR hF
      have e258 : ax.eval (.tmp 258) = _ := hF 19 (det 258 _) (by decide) (.tail _ (.head _))
      have e259 : ax.eval (.tmp 259) = _ := hF 20 (det 259 _) (by decide) (.head _)
      have e256 : ax.eval (.tmp 256) = _ := hF 17 (det 256 _) (by decide) (.tail _ (.tail _ (.tail _ (.head _))))
      refine ⟨e256, ?_⟩
      exact x_pick_f rfl e258 rfl
    apply Build.detg 261 Ext.refl (by rfl) (by rw [k.size]; rfl) rfl rfl
    case h =>
      intro ax wx hE hR hF
      have e260 : ax.eval (.tmp 260) = _ := hF 21 (det 260 _) (by decide) (.head _)
      have e256 : ax.eval (.tmp 256) = _ := hF 17 (det 256 _) (by decide) (.tail _ (.tail _ (.tail _ (.tail _ (.head _)))))
      refine ⟨e256, ?_⟩
      exact x_move rfl e260
    refine Build.skip 262 (by rfl) (by rw [k.size]; rfl) rfl rfl ?_ ?_
    · intro ax wx hE hR hF
      have e261 : ax.eval (.tmp 261) = _ := hF 22 (det 261 _) (by decide) (.head _)
      exact e261
    refine Build.skip 263 (by rfl) (by rw [k.size]; rfl) rfl rfl ?_ ?_
    · intro ax wx hE hR hF
      have e261 : ax.eval (.tmp 261) = _ := hF 22 (det 261 _) (by decide) (.tail _ (.head _))
      exact e261
    refine Build.skip 264 (by rfl) (by rw [k.size]; rfl) rfl rfl ?_ ?_
    · intro ax wx hE hR hF
      have e261 : ax.eval (.tmp 261) = _ := hF 22 (det 261 _) (by decide) (.tail _ (.tail _ (.head _)))
      exact e261
    refine Build.skipu 265 (by rfl) (by rw [k.size]; rfl) rfl rfl ?_ ?_
    · intro ax wx hE hR hF
      have e264 : ax.eval (.tmp 264) = _ := hF 25 (det 264 _) (by decide) (.head _)
      exact e264
    refine Build.skipu 266 (by rfl) (by rw [k.size]; rfl) rfl rfl ?_ ?_
    · intro ax wx hE hR hF
      have e264 : ax.eval (.tmp 264) = _ := hF 25 (det 264 _) (by decide) (.tail _ (.head _))
      exact e264
    refine Build.skipu 267 (by rfl) (by rw [k.size]; rfl) rfl rfl ?_ ?_
    · intro ax wx hE hR hF
      have e264 : ax.eval (.tmp 264) = _ := hF 25 (det 264 _) (by decide) (.tail _ (.tail _ (.head _)))
      exact e264
    refine Build.skipu 268 (by rfl) (by rw [k.size]; rfl) rfl rfl ?_ ?_
    · intro ax wx hE hR hF
      have e264 : ax.eval (.tmp 264) = _ := hF 25 (det 264 _) (by decide) (.tail _ (.tail _ (.tail _ (.head _))))
      exact e264
    refine Build.skipu 269 (by rfl) (by rw [k.size]; rfl) rfl rfl ?_ ?_
    · intro ax wx hE hR hF
      have e264 : ax.eval (.tmp 264) = _ := hF 25 (det 264 _) (by decide) (.tail _ (.tail _ (.tail _ (.tail _ (.head _)))))
      exact e264
    refine Build.skipu 270 (by rfl) (by rw [k.size]; rfl) rfl rfl ?_ ?_
    · intro ax wx hE hR hF
      have e264 : ax.eval (.tmp 264) = _ := hF 25 (det 264 _) (by decide) (.tail _ (.tail _ (.tail _ (.tail _ (.tail _ (.head _))))))
      exact e264
    refine Build.skipu 271 (by rfl) (by rw [k.size]; rfl) rfl rfl ?_ ?_
    · intro ax wx hE hR hF
      have e264 : ax.eval (.tmp 264) = _ := hF 25 (det 264 _) (by decide) (.tail _ (.tail _ (.tail _ (.tail _ (.tail _ (.tail _ (.head _)))))))
      exact e264
    refine Build.skipu 272 (by rfl) (by rw [k.size]; rfl) rfl rfl ?_ ?_
    · intro ax wx hE hR hF
      have e264 : ax.eval (.tmp 264) = _ := hF 25 (det 264 _) (by decide) (.tail _ (.tail _ (.tail _ (.tail _ (.tail _ (.tail _ (.tail _ (.head _))))))))
      exact e264
    refine Build.skipu 273 (by rfl) (by rw [k.size]; rfl) rfl rfl ?_ ?_
    · intro ax wx hE hR hF
      have e264 : ax.eval (.tmp 264) = _ := hF 25 (det 264 _) (by decide) (.tail _ (.tail _ (.tail _ (.tail _ (.tail _ (.tail _ (.tail _ (.tail _ (.head _)))))))))
      exact e264
    refine Build.skipu 274 (by rfl) (by rw [k.size]; rfl) rfl rfl ?_ ?_
    · intro ax wx hE hR hF
      have e264 : ax.eval (.tmp 264) = _ := hF 25 (det 264 _) (by decide) (.tail _ (.tail _ (.tail _ (.tail _ (.tail _ (.tail _ (.tail _ (.tail _ (.tail _ (.head _))))))))))
      exact e264
    refine Build.skipu 275 (by rfl) (by rw [k.size]; rfl) rfl rfl ?_ ?_
    · intro ax wx hE hR hF
      have e264 : ax.eval (.tmp 264) = _ := hF 25 (det 264 _) (by decide) (.tail _ (.tail _ (.tail _ (.tail _ (.tail _ (.tail _ (.tail _ (.tail _ (.tail _ (.tail _ (.head _)))))))))))
      exact e264
    refine Build.skipu 276 (by rfl) (by rw [k.size]; rfl) rfl rfl ?_ ?_
    · intro ax wx hE hR hF
      have e264 : ax.eval (.tmp 264) = _ := hF 25 (det 264 _) (by decide) (.tail _ (.tail _ (.tail _ (.tail _ (.tail _ (.tail _ (.tail _ (.tail _ (.tail _ (.tail _ (.tail _ (.head _))))))))))))
      exact e264
    refine Build.skipu 277 (by rfl) (by rw [k.size]; rfl) rfl rfl ?_ ?_
    · intro ax wx hE hR hF
      have e264 : ax.eval (.tmp 264) = _ := hF 25 (det 264 _) (by decide) (.tail _ (.tail _ (.tail _ (.tail _ (.tail _ (.tail _ (.tail _ (.tail _ (.tail _ (.tail _ (.tail _ (.tail _ (.head _)))))))))))))
      exact e264
    refine Build.skipu 278 (by rfl) (by rw [k.size]; rfl) rfl rfl ?_ ?_
    · intro ax wx hE hR hF
      have e264 : ax.eval (.tmp 264) = _ := hF 25 (det 264 _) (by decide) (.tail _ (.tail _ (.tail _ (.tail _ (.tail _ (.tail _ (.tail _ (.tail _ (.tail _ (.tail _ (.tail _ (.tail _ (.tail _ (.head _))))))))))))))
      exact e264
    refine Build.skipu 279 (by rfl) (by rw [k.size]; rfl) rfl rfl ?_ ?_
    · intro ax wx hE hR hF
      have e264 : ax.eval (.tmp 264) = _ := hF 25 (det 264 _) (by decide) (.tail _ (.tail _ (.tail _ (.tail _ (.tail _ (.tail _ (.tail _ (.tail _ (.tail _ (.tail _ (.tail _ (.tail _ (.tail _ (.tail _ (.head _)))))))))))))))
      exact e264
    refine Build.skipu 280 (by rfl) (by rw [k.size]; rfl) rfl rfl ?_ ?_
    · intro ax wx hE hR hF
      have e264 : ax.eval (.tmp 264) = _ := hF 25 (det 264 _) (by decide) (.tail _ (.tail _ (.tail _ (.tail _ (.tail _ (.tail _ (.tail _ (.tail _ (.tail _ (.tail _ (.tail _ (.tail _ (.tail _ (.tail _ (.tail _ (.head _))))))))))))))))
      exact e264
    refine Build.skipu 281 (by rfl) (by rw [k.size]; rfl) rfl rfl ?_ ?_
    · intro ax wx hE hR hF
      have e264 : ax.eval (.tmp 264) = _ := hF 25 (det 264 _) (by decide) (.tail _ (.tail _ (.tail _ (.tail _ (.tail _ (.tail _ (.tail _ (.tail _ (.tail _ (.tail _ (.tail _ (.tail _ (.tail _ (.tail _ (.tail _ (.tail _ (.head _)))))))))))))))))
      exact e264
    refine Build.skipu 282 (by rfl) (by rw [k.size]; rfl) rfl rfl ?_ ?_
    · intro ax wx hE hR hF
      have e264 : ax.eval (.tmp 264) = _ := hF 25 (det 264 _) (by decide) (.tail _ (.tail _ (.tail _ (.tail _ (.tail _ (.tail _ (.tail _ (.tail _ (.tail _ (.tail _ (.tail _ (.tail _ (.tail _ (.tail _ (.tail _ (.tail _ (.tail _ (.head _))))))))))))))))))
      exact e264
    refine Build.skipu 283 (by rfl) (by rw [k.size]; rfl) rfl rfl ?_ ?_
    · intro ax wx hE hR hF
      have e264 : ax.eval (.tmp 264) = _ := hF 25 (det 264 _) (by decide) (.tail _ (.tail _ (.tail _ (.tail _ (.tail _ (.tail _ (.tail _ (.tail _ (.tail _ (.tail _ (.tail _ (.tail _ (.tail _ (.tail _ (.tail _ (.tail _ (.tail _ (.tail _ (.head _)))))))))))))))))))
      exact e264
    refine Build.skipu 284 (by rfl) (by rw [k.size]; rfl) rfl rfl ?_ ?_
    · intro ax wx hE hR hF
      have e264 : ax.eval (.tmp 264) = _ := hF 25 (det 264 _) (by decide) (.tail _ (.tail _ (.tail _ (.tail _ (.tail _ (.tail _ (.tail _ (.tail _ (.tail _ (.tail _ (.tail _ (.tail _ (.tail _ (.tail _ (.tail _ (.tail _ (.tail _ (.tail _ (.tail _ (.head _))))))))))))))))))))
      exact e264
    refine Build.skip 285 (by rfl) (by rw [k.size]; rfl) rfl rfl ?_ ?_
    · intro ax wx hE hR hF
      have e261 : ax.eval (.tmp 261) = _ := hF 22 (det 261 _) (by decide) (.tail _ (.tail _ (.tail _ (.tail _ (.tail _ (.tail _ (.tail _ (.tail _ (.tail _ (.tail _ (.tail _ (.tail _ (.tail _ (.tail _ (.tail _ (.tail _ (.tail _ (.tail _ (.tail _ (.tail _ (.tail _ (.tail _ (.tail _ (.head _))))))))))))))))))))))))
      exact e261
    apply Build.detg 286 Ext.refl (by rfl) (by rw [k.size]; rfl) rfl rfl
    case h =>
      intro ax wx hE hR hF
      have e261 : ax.eval (.tmp 261) = _ := hF 22 (det 261 _) (by decide) (.tail _ (.tail _ (.tail _ (.tail _ (.tail _ (.tail _ (.tail _ (.tail _ (.tail _ (.tail _ (.tail _ (.tail _ (.tail _ (.tail _ (.tail _ (.tail _ (.tail _ (.tail _ (.tail _ (.tail _ (.tail _ (.tail _ (.tail _ (.tail _ (.head _)))))))))))))))))))))))))
      have e285 : ax.eval (.tmp 285) = _ := hF 46 (det 285 _) (by decide) (.head _)
      have e256 : ax.eval (.tmp 256) = _ := hF 17 (det 256 _) (by decide) (.tail _ (.tail _ (.tail _ (.tail _ (.tail _ (.tail _ (.tail _ (.tail _ (.tail _ (.tail _ (.tail _ (.tail _ (.tail _ (.tail _ (.tail _ (.tail _ (.tail _ (.tail _ (.tail _ (.tail _ (.tail _ (.tail _ (.tail _ (.tail _ (.tail _ (.tail _ (.tail _ (.tail _ (.tail _ (.head _))))))))))))))))))))))))))))))
      refine ⟨e256, ?_⟩
      exact x_pick_f rfl e261 rfl
    apply Build.det 287 Ext.refl (by rfl) (by rw [k.size]; rfl) rfl
    case h =>
      intro ax wx hE hR hF
      have e256 : ax.eval (.tmp 256) = _ := hF 17 (det 256 _) (by decide) (.tail _ (.tail _ (.tail _ (.tail _ (.tail _ (.tail _ (.tail _ (.tail _ (.tail _ (.tail _ (.tail _ (.tail _ (.tail _ (.tail _ (.tail _ (.tail _ (.tail _ (.tail _ (.tail _ (.tail _ (.tail _ (.tail _ (.tail _ (.tail _ (.tail _ (.tail _ (.tail _ (.tail _ (.tail _ (.tail _ (.head _)))))))))))))))))))))))))))))))
      have e286 : ax.eval (.tmp 286) = _ := hF 47 (det 286 _) (by decide) (.head _)
      exact x_pick_f rfl e256 e286
    apply Build.det 288 Ext.refl (by rfl) (by rw [k.size]; rfl) rfl
    case h =>
      intro ax wx hE hR hF
      have e287 : ax.eval (.tmp 287) = _ := hF 48 (det 287 _) (by decide) (.head _)
      exact x_move rfl e287
    apply Build.detg 289 Ext.refl (by rfl) (by rw [k.size]; rfl) rfl rfl
    case h =>
      intro ax wx hE hR hF
      have e288 : ax.eval (.tmp 288) = _ := hF 49 (det 288 _) (by decide) (.head _)
      refine ⟨e288, ?_⟩
      exact x_move rfl (hE.eval 21 (by rfl) e21)
    apply Build.detg 290 Ext.refl (by rfl) (by rw [k.size]; rfl) rfl rfl
    case h =>
      intro ax wx hE hR hF
      have e289 : ax.eval (.tmp 289) = _ := hF 50 (det 289 _) (by decide) (.head _)
      have e288 : ax.eval (.tmp 288) = _ := hF 49 (det 288 _) (by decide) (.tail _ (.head _))
      refine ⟨e288, ?_⟩
      exact x_neq rfl e289 rfl
    apply Build.detg 291 Ext.refl (by rfl) (by rw [k.size]; rfl) rfl rfl
    case h =>
      intro ax wx hE hR hF
      have e290 : ax.eval (.tmp 290) = _ := hF 51 (det 290 _) (by decide) (.head _)
      have e288 : ax.eval (.tmp 288) = _ := hF 49 (det 288 _) (by decide) (.tail _ (.tail _ (.head _)))
      refine ⟨e288, ?_⟩
      exact x_move rfl e290
    apply Build.detg 292 Ext.refl (by rfl) (by rw [k.size]; rfl) rfl rfl
    case h =>
      intro ax wx hE hR hF
      have e291 : ax.eval (.tmp 291) = _ := hF 52 (det 291 _) (by decide) (.head _)
      refine ⟨e291, ?_⟩
      exact x_move rfl (hE.eval 20 (by rfl) e20)
    apply Build.detg 293 Ext.refl (by rfl) (by rw [k.size]; rfl) rfl rfl
    case h =>
      intro ax wx hE hR hF
      have e292 : ax.eval (.tmp 292) = _ := hF 53 (det 292 _) (by decide) (.head _)
      have e291 : ax.eval (.tmp 291) = _ := hF 52 (det 291 _) (by decide) (.tail _ (.head _))
      refine ⟨e291, ?_⟩
      exact x_dec (x_nes (l := []) (m := []) rfl e292 rfl) (decide_eq_false (fun h => h rfl))
    apply Build.detg 294 Ext.refl (by rfl) (by rw [k.size]; rfl) rfl rfl
    case h =>
      intro ax wx hE hR hF
      have e291 : ax.eval (.tmp 291) = _ := hF 52 (det 291 _) (by decide) (.tail _ (.tail _ (.head _)))
      have e293 : ax.eval (.tmp 293) = _ := hF 54 (det 293 _) (by decide) (.head _)
      have e288 : ax.eval (.tmp 288) = _ := hF 49 (det 288 _) (by decide) (.tail _ (.tail _ (.tail _ (.tail _ (.tail _ (.head _))))))
      refine ⟨e288, ?_⟩
      exact x_pick_t rfl e291 e293
    apply Build.det 295 Ext.refl (by rfl) (by rw [k.size]; rfl) rfl
    case h =>
      intro ax wx hE hR hF
      have e288 : ax.eval (.tmp 288) = _ := hF 49 (det 288 _) (by decide) (.tail _ (.tail _ (.tail _ (.tail _ (.tail _ (.tail _ (.head _)))))))
      have e294 : ax.eval (.tmp 294) = _ := hF 55 (det 294 _) (by decide) (.head _)
      exact x_pick_f rfl e288 e294
    apply Build.stop
    refine ⟨by kernel_rfl, .inl ⟨rfl, ?_⟩⟩
    intro a19 w20 hE R hF
    have e295 : a19.eval (.tmp 295) = _ := hF 56 (det 295 _) (.head _)
    clear hF
    replace O := OwnT.ext O R
    clear R
    replace e2 := hE.eval 2 (by rfl) e2
    replace e3 := hE.eval 3 (by rfl) e3
    replace e10 := hE.eval 10 (by rfl) e10
    replace e11 := hE.eval 11 (by rfl) e11
    replace e12 := hE.eval 12 (by rfl) e12
    replace e14 := hE.eval 14 (by rfl) e14
    replace e15 := hE.eval 15 (by rfl) e15
    replace k := k.env hE
    clear hE e16 e17 e20 e21 e22
    refine then_n ?_
    refine cond_f e295 rfl ?_
    refine wp_skip ?_
    refine block_n ?_
    exact hQ _ _ _ _ _ _ _ k e2 e3 e10 e11 e12 e14 e15 hF (hM.mono (by omega)) O
  | true =>
    cases hf : fitsB sz y N with
    | false =>
      refine wp_block ?_
      refine wp_seq ?_
      refine wp_region_lit ?_
      have hE := Env.refl a [204, 203]
      apply sq_det 204 hE k rfl (by rfl) (by rfl) rfl
      case h =>
        exact x_eql rfl (hE.eval 144 (by rfl) e144) rfl
      intro a21 hE e204 kp
      apply sq_det 203 hE k rfl (by rfl) (by rfl) rfl
      case h =>
        exact x_assign rfl e204
      intro a22 hE e203 kp
      refine wpList_nil ?_
      replace e2 := hE.eval 2 (by rfl) e2
      replace e3 := hE.eval 3 (by rfl) e3
      replace e10 := hE.eval 10 (by rfl) e10
      replace e11 := hE.eval 11 (by rfl) e11
      replace e12 := hE.eval 12 (by rfl) e12
      replace e14 := hE.eval 14 (by rfl) e14
      replace e15 := hE.eval 15 (by rfl) e15
      replace e16 := hE.eval 16 (by rfl) e16
      replace e17 := hE.eval 17 (by rfl) e17
      replace e18 := hE.eval 18 (by rfl) e18
      replace e19 := hE.eval 19 (by rfl) e19
      replace e144 := hE.eval 144 (by rfl) e144
      replace k := k.env hE
      clear hE
      refine then_n ?_
      refine cond_t e203 rfl ?_
      refine wp_seq ?_
      refine wp_region_lit ?_
      have hE := Env.refl a22 [206, 207, 208, 209, 210, 211, 212, 213, 205, 214, 215, 20, 21]
      apply sq_det 206 hE k rfl (by rfl) (by rfl) rfl
      case h =>
        exact x_move rfl (hE.eval 12 (by rfl) e12)
      intro a23 hE e206 kp
      apply sq_det 207 hE k rfl (by rfl) (by rfl) rfl
      case h =>
        simp [go_sem, ↓IntWalk.iteOmega, ev (hE.eval 16 (by rfl) e16)]
        with_reducible rfl
      intro a24 hE e207 kp
      replace e206 := (kp 206 rfl).trans e206
      apply sq_det 208 hE k rfl (by rfl) (by rfl) rfl
      case h =>
        have q0 : w.cell? ⟨xb, 1, none⟩ = some (.int .i64 t) := (OwnT.blk O 7 rfl).cell 1
        have q1 : w.cell? ⟨xb, 2, none⟩ = some (.int .i64 x) := (OwnT.blk O 7 rfl).cell 2
        simp [go_sem, ↓IntWalk.iteOmega, ev e207, q0, q1]
        with_reducible rfl
      intro a25 hE e208 kp
      replace e206 := (kp 206 rfl).trans e206
      apply sq_det 209 hE k rfl (by rfl) (by rfl) rfl
      case h =>
        simp [go_sem, ↓IntWalk.iteOmega, ev (hE.eval 16 (by rfl) e16)]
        with_reducible rfl
      intro a26 hE e209 kp
      replace e206 := (kp 206 rfl).trans e206
      replace e208 := (kp 208 rfl).trans e208
      apply sq_det 210 hE k rfl (by rfl) (by rfl) rfl
      case h =>
        have q0 : w.cell? ⟨xb, 5, none⟩ = some (.int .i64 y) := (OwnT.blk O 7 rfl).cell 5
        simp [go_sem, ↓IntWalk.iteOmega, ev e209, q0]
        with_reducible rfl
      intro a27 hE e210 kp
      replace e206 := (kp 206 rfl).trans e206
      replace e208 := (kp 208 rfl).trans e208
      apply sq_det 211 hE k rfl (by rfl) (by rfl) rfl
      case h =>
        simp [go_sem, ↓IntWalk.iteOmega, ev (hE.eval 16 (by rfl) e16)]
        with_reducible rfl
      intro a28 hE e211 kp
      replace e206 := (kp 206 rfl).trans e206
      replace e208 := (kp 208 rfl).trans e208
      replace e210 := (kp 210 rfl).trans e210
      apply sq_det 212 hE k rfl (by rfl) (by rfl) rfl
      case h =>
        have q0 : w.cell? ⟨xb, 6, none⟩ = some (.int .i64 N) := (OwnT.blk O 7 rfl).cell 6
        simp [go_sem, ↓IntWalk.iteOmega, ev e211, q0]
        with_reducible rfl
      intro a29 hE e212 kp
      replace e206 := (kp 206 rfl).trans e206
      replace e208 := (kp 208 rfl).trans e208
      replace e210 := (kp 210 rfl).trans e210
      apply sq_call 213 hE k rfl (by rfl) (by rfl) rfl
      case h =>
        simp [go_sem, ↓IntWalk.iteOmega, ev e206, ev e208, ev e210, ev e212]
        with_reducible exact ⟨rfl, rfl⟩
      case hc => exact qread_range y N _ O hs hz hk hf
      rintro e w31 ⟨rfl, R⟩
      replace O := OwnT.ext O R
      refine ⟨_, rfl, ?_⟩
      intro a30 hE e213 kp
      apply sq_det 205 hE k rfl (by rfl) (by rfl) rfl
      case h =>
        exact x_move rfl e213
      intro a32 hE e205 kp
      apply sq_det 214 hE k rfl (by rfl) (by rfl) rfl
      case h =>
        simp [go_sem, ↓IntWalk.iteOmega, ev e205]
        with_reducible rfl
      intro a33 hE e214 kp
      replace e205 := (kp 205 rfl).trans e205
      apply sq_det 215 hE k rfl (by rfl) (by rfl) rfl
      case h =>
        simp [go_sem, ↓IntWalk.iteOmega, ev e205]
        with_reducible rfl
      intro a34 hE e215 kp
      replace e214 := (kp 214 rfl).trans e214
      apply sq_det 20 hE k rfl (by rfl) (by rfl) rfl
      case h =>
        exact x_assign rfl e214
      intro a35 hE e20 kp
      replace e215 := (kp 215 rfl).trans e215
      apply sq_det 21 hE k rfl (by rfl) (by rfl) rfl
      case h =>
        exact x_assign rfl e215
      intro a36 hE e21 kp
      replace e20 := (kp 20 rfl).trans e20
      refine wpList_nil ?_
      replace e2 := hE.eval 2 (by rfl) e2
      replace e3 := hE.eval 3 (by rfl) e3
      replace e10 := hE.eval 10 (by rfl) e10
      replace e11 := hE.eval 11 (by rfl) e11
      replace e12 := hE.eval 12 (by rfl) e12
      replace e14 := hE.eval 14 (by rfl) e14
      replace e15 := hE.eval 15 (by rfl) e15
      replace e16 := hE.eval 16 (by rfl) e16
      replace e17 := hE.eval 17 (by rfl) e17
      replace k := k.env hE
      clear hE e18 e19 e144 e203
      refine then_n ?_
      refine wp_seq ?_
      refine ck_fit32 (c := c) (v20 := (.string (sB ([])))) (v21 := (.int .i64 9)) (m := m) _ _ k e2 e3 e10 e11 e12 e14 e15 e16 e17 e20 e21 O hz hm ?_
      clear O
      intro a37 w38 k e2 e3 e10 e11 e12 e14 e15 e16 e17 e20 e21 e22 O
      refine then_n ?_
      rw [hk] at e17
      rw [hf] at e22
      refine wp_seq ?_
      refine wp_typed (R := Ext) (w0 := w38) [[], [0], [0, 1], [0, 1, 2], [0, 1, 2, 3], [0, 1, 2, 3, 4], [0, 1, 2, 3, 4, 5], [0, 1, 2, 3, 4, 5, 6], [0, 1, 2, 3, 4, 5, 6, 7], [0, 1, 2, 3, 4, 5, 6, 7, 8], [0, 1, 2, 3, 4, 5, 6, 7, 8, 9], [0, 1, 2, 3, 4, 5, 6, 7, 8, 9, 10], [0, 1, 2, 3, 4, 5, 6, 7, 8, 9, 10, 11], [0, 1, 2, 3, 4, 5, 6, 7, 8, 9, 10, 11, 12], [0, 1, 2, 3, 4, 5, 6, 7, 8, 9, 10, 11, 12, 13], [0, 1, 2, 3, 4, 5, 6, 7, 8, 9, 10, 11, 12, 13, 14], [0, 1, 2, 3, 4, 5, 6, 7, 8, 9, 10, 11, 12, 13, 14, 15], [0, 1, 2, 3, 4, 5, 6, 7, 8, 9, 10, 11, 12, 13, 14, 15, 16], [0, 1, 2, 3, 4, 5, 6, 7, 8, 9, 10, 11, 12, 13, 14, 15, 16, 17], [0, 1, 2, 3, 4, 5, 6, 7, 8, 9, 10, 11, 12, 13, 14, 15, 16, 17, 18], [0, 1, 2, 3, 4, 5, 6, 7, 8, 9, 10, 11, 12, 13, 14, 15, 16, 17, 18, 19], [0, 1, 2, 3, 4, 5, 6, 7, 8, 9, 10, 11, 12, 13, 14, 15, 16, 17, 18, 19, 20], [0, 1, 2, 3, 4, 5, 6, 7, 8, 9, 10, 11, 12, 13, 14, 15, 16, 17, 18, 19, 20, 21], [0, 1, 2, 3, 4, 5, 6, 7, 8, 9, 10, 11, 12, 13, 14, 15, 16, 17, 18, 19, 20, 21, 22], [0, 1, 2, 3, 4, 5, 6, 7, 8, 9, 10, 11, 12, 13, 14, 15, 16, 17, 18, 19, 20, 21, 22, 23], [0, 1, 2, 3, 4, 5, 6, 7, 8, 9, 10, 11, 12, 13, 14, 15, 16, 17, 18, 19, 20, 21, 22, 23, 24], [0, 1, 2, 3, 4, 5, 6, 7, 8, 9, 10, 11, 12, 13, 14, 15, 16, 17, 18, 19, 20, 21, 22, 23, 24, 25], [0, 1, 2, 3, 4, 5, 6, 7, 8, 9, 10, 11, 12, 13, 14, 15, 16, 17, 18, 19, 20, 21, 22, 23, 24, 25], [0, 1, 2, 3, 4, 5, 6, 7, 8, 9, 10, 11, 12, 13, 14, 15, 16, 17, 18, 19, 20, 21, 22, 23, 24, 25], [0, 1, 2, 3, 4, 5, 6, 7, 8, 9, 10, 11, 12, 13, 14, 15, 16, 17, 18, 19, 20, 21, 22, 23, 24, 25, 28], [0, 1, 2, 3, 4, 5, 6, 7, 8, 9, 10, 11, 12, 13, 14, 15, 16, 17, 18, 19, 20, 21, 22, 23, 24, 25, 28, 29], [0, 1, 2, 3, 4, 5, 6, 7, 8, 9, 10, 11, 12, 13, 14, 15, 16, 17, 18, 19, 20, 21, 22, 23, 24, 25], [0, 1, 2, 3, 4, 5, 6, 7, 8, 9, 10, 11, 12, 13, 14, 15, 16, 17, 18, 19, 20, 21, 22, 23, 24, 25, 31], [0, 1, 2, 3, 4, 5, 6, 7, 8, 9, 10, 11, 12, 13, 14, 15, 16, 17, 18, 19, 20, 21, 22, 23, 24, 25, 31, 32], [0, 1, 2, 3, 4, 5, 6, 7, 8, 9, 10, 11, 12, 13, 14, 15, 16, 17, 18, 19, 20, 21, 22, 23, 24, 25, 27, 28, 29, 30, 31, 32, 33], [0, 1, 2, 3, 4, 5, 6, 7, 8, 9, 10, 11, 12, 13, 14, 15, 16, 17, 18, 19, 20, 21, 22, 23, 24, 25], [0, 1, 2, 3, 4, 5, 6, 7, 8, 9, 10, 11, 12, 13, 14, 15, 16, 17, 18, 19, 20, 21, 22, 23, 24, 25, 35], [0, 1, 2, 3, 4, 5, 6, 7, 8, 9, 10, 11, 12, 13, 14, 15, 16, 17, 18, 19, 20, 21, 22, 23, 24, 25, 35, 36], [0, 1, 2, 3, 4, 5, 6, 7, 8, 9, 10, 11, 12, 13, 14, 15, 16, 17, 18, 19, 20, 21, 22, 23, 24, 25], [0, 1, 2, 3, 4, 5, 6, 7, 8, 9, 10, 11, 12, 13, 14, 15, 16, 17, 18, 19, 20, 21, 22, 23, 24, 25, 38], [0, 1, 2, 3, 4, 5, 6, 7, 8, 9, 10, 11, 12, 13, 14, 15, 16, 17, 18, 19, 20, 21, 22, 23, 24, 25], [0, 1, 2, 3, 4, 5, 6, 7, 8, 9, 10, 11, 12, 13, 14, 15, 16, 17, 18, 19, 20, 21, 22, 23, 24, 25, 40], [0, 1, 2, 3, 4, 5, 6, 7, 8, 9, 10, 11, 12, 13, 14, 15, 16, 17, 18, 19, 20, 21, 22, 23, 24, 25, 38, 39, 40, 41], [0, 1, 2, 3, 4, 5, 6, 7, 8, 9, 10, 11, 12, 13, 14, 15, 16, 17, 18, 19, 20, 21, 22, 23, 24, 25, 38, 39, 40, 41, 42], [0, 1, 2, 3, 4, 5, 6, 7, 8, 9, 10, 11, 12, 13, 14, 15, 16, 17, 18, 19, 20, 21, 22, 23, 24, 25, 27, 28, 29, 30, 31, 32, 33, 34, 35, 36, 37, 38, 39, 40, 41, 42, 43], [0, 1, 2, 3, 4, 5, 6, 7, 8, 9, 10, 11, 12, 13, 14, 15, 16, 17, 18, 19, 20, 21, 22, 23, 24, 25, 26, 27, 28, 29, 30, 31, 32, 33, 34, 35, 36, 37, 38, 39, 40, 41, 42, 43, 44], [0, 1, 2, 3, 4, 5, 6, 7, 8, 9, 10, 11, 12, 13, 14, 15, 16, 17, 18, 19, 20, 21, 22, 23, 24, 25, 26, 27, 28, 29, 30, 31, 32, 33, 34, 35, 36, 37, 38, 39, 40, 41, 42, 43, 44, 45], [0, 1, 2, 3, 4, 5, 6, 7, 8, 9, 10, 11, 12, 13, 14, 15, 16, 17, 18, 19, 20, 21, 22, 23, 24, 25, 26, 27, 28, 29, 30, 31, 32, 33, 34, 35, 36, 37, 38, 39, 40, 41, 42, 43, 44, 45, 46], [0, 1, 2, 3, 4, 5, 6, 7, 8, 9, 10, 11, 12, 13, 14, 15, 16, 17, 18, 19, 20, 21, 22, 23, 24, 25, 26, 27, 28, 29, 30, 31, 32, 33, 34, 35, 36, 37, 38, 39, 40, 41, 42, 43, 44, 45, 46, 47], [0, 1, 2, 3, 4, 5, 6, 7, 8, 9, 10, 11, 12, 13, 14, 15, 16, 17, 18, 19, 20, 21, 22, 23, 24, 25, 26, 27, 28, 29, 30, 31, 32, 33, 34, 35, 36, 37, 38, 39, 40, 41, 42, 43, 44, 45, 46, 47, 48], [0, 1, 2, 3, 4, 5, 6, 7, 8, 9, 10, 11, 12, 13, 14, 15, 16, 17, 18, 19, 20, 21, 22, 23, 24, 25, 26, 27, 28, 29, 30, 31, 32, 33, 34, 35, 36, 37, 38, 39, 40, 41, 42, 43, 44, 45, 46, 47, 48, 49], [0, 1, 2, 3, 4, 5, 6, 7, 8, 9, 10, 11, 12, 13, 14, 15, 16, 17, 18, 19, 20, 21, 22, 23, 24, 25, 26, 27, 28, 29, 30, 31, 32, 33, 34, 35, 36, 37, 38, 39, 40, 41, 42, 43, 44, 45, 46, 47, 48, 49, 50], [0, 1, 2, 3, 4, 5, 6, 7, 8, 9, 10, 11, 12, 13, 14, 15, 16, 17, 18, 19, 20, 21, 22, 23, 24, 25, 26, 27, 28, 29, 30, 31, 32, 33, 34, 35, 36, 37, 38, 39, 40, 41, 42, 43, 44, 45, 46, 47, 48, 49, 50, 51], [0, 1, 2, 3, 4, 5, 6, 7, 8, 9, 10, 11, 12, 13, 14, 15, 16, 17, 18, 19, 20, 21, 22, 23, 24, 25, 26, 27, 28, 29, 30, 31, 32, 33, 34, 35, 36, 37, 38, 39, 40, 41, 42, 43, 44, 45, 46, 47, 48, 49, 50, 51, 52], [0, 1, 2, 3, 4, 5, 6, 7, 8, 9, 10, 11, 12, 13, 14, 15, 16, 17, 18, 19, 20, 21, 22, 23, 24, 25, 26, 27, 28, 29, 30, 31, 32, 33, 34, 35, 36, 37, 38, 39, 40, 41, 42, 43, 44, 45, 46, 47, 48, 49, 50, 51, 52, 53], [0, 1, 2, 3, 4, 5, 6, 7, 8, 9, 10, 11, 12, 13, 14, 15, 16, 17, 18, 19, 20, 21, 22, 23, 24, 25, 26, 27, 28, 29, 30, 31, 32, 33, 34, 35, 36, 37, 38, 39, 40, 41, 42, 43, 44, 45, 46, 47, 48, 49, 50, 51, 52, 53, 54], [0, 1, 2, 3, 4, 5, 6, 7, 8, 9, 10, 11, 12, 13, 14, 15, 16, 17, 18, 19, 20, 21, 22, 23, 24, 25, 26, 27, 28, 29, 30, 31, 32, 33, 34, 35, 36, 37, 38, 39, 40, 41, 42, 43, 44, 45, 46, 47, 48, 49, 50, 51, 52, 53, 54, 55]] [239, 240, 241, 242, 243, 244, 245, 246, 247, 248, 249, 250, 251, 252, 253, 254, 255, 256, 257, 258, 259, 260, 261, 262, 263, 264, 265, 266, 267, 268, 269, 270, 271, 272, 273, 274, 275, 276, 277, 278, 279, 280, 281, 282, 283, 284, 285, 286, 287, 288, 289, 290, 291, 292, 293, 294, 295] Ext.refl (fun _ _ _ => Ext.trans) (Ext.drew _) (by kernel_rfl) ?_
      apply Build.det 239 Ext.refl (by rfl) (by rw [k.size]; rfl) rfl
      case h =>
        intro ax wx hE hR hF
        exact x_move rfl (hE.eval 17 (by rfl) e17)
      apply Build.det 240 Ext.refl (by rfl) (by rw [k.size]; rfl) rfl
      case h =>
        intro ax wx hE hR hF
        have e239 : ax.eval (.tmp 239) = _ := hF 0 (det 239 _) (by decide) (.head _)
        exact x_not rfl e239
      apply Build.det 241 Ext.refl (by rfl) (by rw [k.size]; rfl) rfl
      case h =>
        intro ax wx hE hR hF
        have e240 : ax.eval (.tmp 240) = _ := hF 1 (det 240 _) (by decide) (.head _)
        exact x_move rfl e240
      refine Build.skip 242 (by rfl) (by rw [k.size]; rfl) rfl rfl ?_ ?_
      · intro ax wx hE hR hF
        have e241 : ax.eval (.tmp 241) = _ := hF 2 (det 241 _) (by decide) (.head _)
        exact e241
      refine Build.skip 243 (by rfl) (by rw [k.size]; rfl) rfl rfl ?_ ?_
      · intro ax wx hE hR hF
        have e241 : ax.eval (.tmp 241) = _ := hF 2 (det 241 _) (by decide) (.tail _ (.head _))
        exact e241
      apply Build.det 244 Ext.refl (by rfl) (by rw [k.size]; rfl) rfl
      case h =>
        intro ax wx hE hR hF
        have e241 : ax.eval (.tmp 241) = _ := hF 2 (det 241 _) (by decide) (.tail _ (.tail _ (.head _)))
        have e243 : ax.eval (.tmp 243) = _ := hF 4 (det 243 _) (by decide) (.head _)
        exact x_pick_f rfl e241 rfl
      apply Build.det 245 Ext.refl (by rfl) (by rw [k.size]; rfl) rfl
      case h =>
        intro ax wx hE hR hF
        have e244 : ax.eval (.tmp 244) = _ := hF 5 (det 244 _) (by decide) (.head _)
        exact x_move rfl e244
      apply Build.detg 246 Ext.refl (by rfl) (by rw [k.size]; rfl) rfl rfl
      case h =>
        intro ax wx hE hR hF
        have e245 : ax.eval (.tmp 245) = _ := hF 6 (det 245 _) (by decide) (.head _)
        refine ⟨e245, ?_⟩
        exact x_move rfl (hE.eval 17 (by rfl) e17)
      apply Build.detg 247 Ext.refl (by rfl) (by rw [k.size]; rfl) rfl rfl
      case h =>
        intro ax wx hE hR hF
        have e246 : ax.eval (.tmp 246) = _ := hF 7 (det 246 _) (by decide) (.head _)
        have e245 : ax.eval (.tmp 245) = _ := hF 6 (det 245 _) (by decide) (.tail _ (.head _))
        refine ⟨e245, ?_⟩
        exact x_move rfl e246
      apply Build.detg 248 Ext.refl (by rfl) (by rw [k.size]; rfl) rfl rfl
      case h =>
        intro ax wx hE hR hF
        have e247 : ax.eval (.tmp 247) = _ := hF 8 (det 247 _) (by decide) (.head _)
        refine ⟨e247, ?_⟩
        exact x_move rfl (hE.eval 22 (by rfl) e22)
      apply Build.detg 249 Ext.refl (by rfl) (by rw [k.size]; rfl) rfl rfl
      case h =>
        intro ax wx hE hR hF
        have e248 : ax.eval (.tmp 248) = _ := hF 9 (det 248 _) (by decide) (.head _)
        have e247 : ax.eval (.tmp 247) = _ := hF 8 (det 247 _) (by decide) (.tail _ (.head _))
        refine ⟨e247, ?_⟩
        exact x_not rfl e248
      apply Build.detg 250 Ext.refl (by rfl) (by rw [k.size]; rfl) rfl rfl
      case h =>
        intro ax wx hE hR hF
        have e247 : ax.eval (.tmp 247) = _ := hF 8 (det 247 _) (by decide) (.tail _ (.tail _ (.head _)))
        have e249 : ax.eval (.tmp 249) = _ := hF 10 (det 249 _) (by decide) (.head _)
        have e245 : ax.eval (.tmp 245) = _ := hF 6 (det 245 _) (by decide) (.tail _ (.tail _ (.tail _ (.tail _ (.head _)))))
        refine ⟨e245, ?_⟩
        exact x_pick_t rfl e247 e249
      apply Build.detg 251 Ext.refl (by rfl) (by rw [k.size]; rfl) rfl rfl
      case h =>
        intro ax wx hE hR hF
        have e250 : ax.eval (.tmp 250) = _ := hF 11 (det 250 _) (by decide) (.head _)
        have e245 : ax.eval (.tmp 245) = _ := hF 6 (det 245 _) (by decide) (.tail _ (.tail _ (.tail _ (.tail _ (.tail _ (.head _))))))
        refine ⟨e245, ?_⟩
        exact x_move rfl e250
      apply Build.detg 252 Ext.refl (by rfl) (by rw [k.size]; rfl) rfl rfl
      case h =>
        intro ax wx hE hR hF
        have e251 : ax.eval (.tmp 251) = _ := hF 12 (det 251 _) (by decide) (.head _)
        refine ⟨e251, ?_⟩
        exact x_move rfl (hE.eval 21 (by rfl) e21)
      apply Build.detg 253 Ext.refl (by rfl) (by rw [k.size]; rfl) rfl rfl
      case h =>
        intro ax wx hE hR hF
        have e252 : ax.eval (.tmp 252) = _ := hF 13 (det 252 _) (by decide) (.head _)
        have e251 : ax.eval (.tmp 251) = _ := hF 12 (det 251 _) (by decide) (.tail _ (.head _))
        refine ⟨e251, ?_⟩
        exact x_neq rfl e252 rfl
      apply Build.detg 254 Ext.refl (by rfl) (by rw [k.size]; rfl) rfl rfl
      case h =>
        intro ax wx hE hR hF
        have e251 : ax.eval (.tmp 251) = _ := hF 12 (det 251 _) (by decide) (.tail _ (.tail _ (.head _)))
        have e253 : ax.eval (.tmp 253) = _ := hF 14 (det 253 _) (by decide) (.head _)
        have e245 : ax.eval (.tmp 245) = _ := hF 6 (det 245 _) (by decide) (.tail _ (.tail _ (.tail _ (.tail _ (.tail _ (.tail _ (.tail _ (.tail _ (.head _)))))))))
        refine ⟨e245, ?_⟩
        exact x_pick_t rfl e251 e253
      apply Build.det 255 Ext.refl (by rfl) (by rw [k.size]; rfl) rfl
      case h =>
        intro ax wx hE hR hF
        have e245 : ax.eval (.tmp 245) = _ := hF 6 (det 245 _) (by decide) (.tail _ (.tail _ (.tail _ (.tail _ (.tail _ (.tail _ (.tail _ (.tail _ (.tail _ (.head _))))))))))
        have e254 : ax.eval (.tmp 254) = _ := hF 15 (det 254 _) (by decide) (.head _)
        exact x_pick_f rfl e245 e254
      apply Build.det 256 Ext.refl (by rfl) (by rw [k.size]; rfl) rfl
      case h =>
        intro ax wx hE hR hF
        have e255 : ax.eval (.tmp 255) = _ := hF 16 (det 255 _) (by decide) (.head _)
        exact x_move rfl e255
      apply Build.detg 257 Ext.refl (by rfl) (by rw [k.size]; rfl) rfl rfl
      case h =>
        intro ax wx hE hR hF
        have e256 : ax.eval (.tmp 256) = _ := hF 17 (det 256 _) (by decide) (.head _)
        refine ⟨e256, ?_⟩
        exact x_move rfl (hE.eval 17 (by rfl) e17)
      apply Build.detg 258 Ext.refl (by rfl) (by rw [k.size]; rfl) rfl rfl
      case h =>
        intro ax wx hE hR hF
        have e257 : ax.eval (.tmp 257) = _ := hF 18 (det 257 _) (by decide) (.head _)
        have e256 : ax.eval (.tmp 256) = _ := hF 17 (det 256 _) (by decide) (.tail _ (.head _))
        refine ⟨e256, ?_⟩
        exact x_move rfl e257
      apply Build.detg 259 Ext.refl (by rfl) (by rw [k.size]; rfl) rfl rfl
      case h =>
        intro ax wx hE hR hF
        have e258 : ax.eval (.tmp 258) = _ := hF 19 (det 258 _) (by decide) (.head _)
        refine ⟨e258, ?_⟩
        exact x_move rfl (hE.eval 22 (by rfl) e22)
      apply Build.detg 260 Ext.refl (by rfl) (by rw [k.size]; rfl) rfl rfl
      case h =>
        intro ax wx hE hR hF
        have e258 : ax.eval (.tmp 258) = _ := hF 19 (det 258 _) (by decide) (.tail _ (.head _))
        have e259 : ax.eval (.tmp 259) = _ := hF 20 (det 259 _) (by decide) (.head _)
        have e256 : ax.eval (.tmp 256) = _ := hF 17 (det 256 _) (by decide) (.tail _ (.tail _ (.tail _ (.head _))))
        refine ⟨e256, ?_⟩
        exact x_pick_t rfl e258 e259
      apply Build.detg 261 Ext.refl (by rfl) (by rw [k.size]; rfl) rfl rfl
      case h =>
        intro ax wx hE hR hF
        have e260 : ax.eval (.tmp 260) = _ := hF 21 (det 260 _) (by decide) (.head _)
        have e256 : ax.eval (.tmp 256) = _ := hF 17 (det 256 _) (by decide) (.tail _ (.tail _ (.tail _ (.tail _ (.head _)))))
        refine ⟨e256, ?_⟩
        exact x_move rfl e260
      refine Build.skip 262 (by rfl) (by rw [k.size]; rfl) rfl rfl ?_ ?_
      · intro ax wx hE hR hF
        have e261 : ax.eval (.tmp 261) = _ := hF 22 (det 261 _) (by decide) (.head _)
        exact e261
      refine Build.skip 263 (by rfl) (by rw [k.size]; rfl) rfl rfl ?_ ?_
      · intro ax wx hE hR hF
        have e261 : ax.eval (.tmp 261) = _ := hF 22 (det 261 _) (by decide) (.tail _ (.head _))
        exact e261
      refine Build.skip 264 (by rfl) (by rw [k.size]; rfl) rfl rfl ?_ ?_
      · intro ax wx hE hR hF
        have e261 : ax.eval (.tmp 261) = _ := hF 22 (det 261 _) (by decide) (.tail _ (.tail _ (.head _)))
        exact e261
      refine Build.skipu 265 (by rfl) (by rw [k.size]; rfl) rfl rfl ?_ ?_
      · intro ax wx hE hR hF
        have e264 : ax.eval (.tmp 264) = _ := hF 25 (det 264 _) (by decide) (.head _)
        exact e264
      refine Build.skipu 266 (by rfl) (by rw [k.size]; rfl) rfl rfl ?_ ?_
      · intro ax wx hE hR hF
        have e264 : ax.eval (.tmp 264) = _ := hF 25 (det 264 _) (by decide) (.tail _ (.head _))
        exact e264
      refine Build.skipu 267 (by rfl) (by rw [k.size]; rfl) rfl rfl ?_ ?_
      · intro ax wx hE hR hF
        have e264 : ax.eval (.tmp 264) = _ := hF 25 (det 264 _) (by decide) (.tail _ (.tail _ (.head _)))
        exact e264
      refine Build.skipu 268 (by rfl) (by rw [k.size]; rfl) rfl rfl ?_ ?_
      · intro ax wx hE hR hF
        have e264 : ax.eval (.tmp 264) = _ := hF 25 (det 264 _) (by decide) (.tail _ (.tail _ (.tail _ (.head _))))
        exact e264
      refine Build.skipu 269 (by rfl) (by rw [k.size]; rfl) rfl rfl ?_ ?_
      · intro ax wx hE hR hF
        have e264 : ax.eval (.tmp 264) = _ := hF 25 (det 264 _) (by decide) (.tail _ (.tail _ (.tail _ (.tail _ (.head _)))))
        exact e264
      refine Build.skipu 270 (by rfl) (by rw [k.size]; rfl) rfl rfl ?_ ?_
      · intro ax wx hE hR hF
        have e264 : ax.eval (.tmp 264) = _ := hF 25 (det 264 _) (by decide) (.tail _ (.tail _ (.tail _ (.tail _ (.tail _ (.head _))))))
        exact e264
      refine Build.skipu 271 (by rfl) (by rw [k.size]; rfl) rfl rfl ?_ ?_
      · intro ax wx hE hR hF
        have e264 : ax.eval (.tmp 264) = _ := hF 25 (det 264 _) (by decide) (.tail _ (.tail _ (.tail _ (.tail _ (.tail _ (.tail _ (.head _)))))))
        exact e264
      refine Build.skipu 272 (by rfl) (by rw [k.size]; rfl) rfl rfl ?_ ?_
      · intro ax wx hE hR hF
        have e264 : ax.eval (.tmp 264) = _ := hF 25 (det 264 _) (by decide) (.tail _ (.tail _ (.tail _ (.tail _ (.tail _ (.tail _ (.tail _ (.head _))))))))
        exact e264
      refine Build.skipu 273 (by rfl) (by rw [k.size]; rfl) rfl rfl ?_ ?_
      · intro ax wx hE hR hF
        have e264 : ax.eval (.tmp 264) = _ := hF 25 (det 264 _) (by decide) (.tail _ (.tail _ (.tail _ (.tail _ (.tail _ (.tail _ (.tail _ (.tail _ (.head _)))))))))
        exact e264
      refine Build.skipu 274 (by rfl) (by rw [k.size]; rfl) rfl rfl ?_ ?_
      · intro ax wx hE hR hF
        have e264 : ax.eval (.tmp 264) = _ := hF 25 (det 264 _) (by decide) (.tail _ (.tail _ (.tail _ (.tail _ (.tail _ (.tail _ (.tail _ (.tail _ (.tail _ (.head _))))))))))
        exact e264
      refine Build.skipu 275 (by rfl) (by rw [k.size]; rfl) rfl rfl ?_ ?_
      · intro ax wx hE hR hF
        have e264 : ax.eval (.tmp 264) = _ := hF 25 (det 264 _) (by decide) (.tail _ (.tail _ (.tail _ (.tail _ (.tail _ (.tail _ (.tail _ (.tail _ (.tail _ (.tail _ (.head _)))))))))))
        exact e264
      refine Build.skipu 276 (by rfl) (by rw [k.size]; rfl) rfl rfl ?_ ?_
      · intro ax wx hE hR hF
        have e264 : ax.eval (.tmp 264) = _ := hF 25 (det 264 _) (by decide) (.tail _ (.tail _ (.tail _ (.tail _ (.tail _ (.tail _ (.tail _ (.tail _ (.tail _ (.tail _ (.tail _ (.head _))))))))))))
        exact e264
      refine Build.skipu 277 (by rfl) (by rw [k.size]; rfl) rfl rfl ?_ ?_
      · intro ax wx hE hR hF
        have e264 : ax.eval (.tmp 264) = _ := hF 25 (det 264 _) (by decide) (.tail _ (.tail _ (.tail _ (.tail _ (.tail _ (.tail _ (.tail _ (.tail _ (.tail _ (.tail _ (.tail _ (.tail _ (.head _)))))))))))))
        exact e264
      refine Build.skipu 278 (by rfl) (by rw [k.size]; rfl) rfl rfl ?_ ?_
      · intro ax wx hE hR hF
        have e264 : ax.eval (.tmp 264) = _ := hF 25 (det 264 _) (by decide) (.tail _ (.tail _ (.tail _ (.tail _ (.tail _ (.tail _ (.tail _ (.tail _ (.tail _ (.tail _ (.tail _ (.tail _ (.tail _ (.head _))))))))))))))
        exact e264
      refine Build.skipu 279 (by rfl) (by rw [k.size]; rfl) rfl rfl ?_ ?_
      · intro ax wx hE hR hF
        have e264 : ax.eval (.tmp 264) = _ := hF 25 (det 264 _) (by decide) (.tail _ (.tail _ (.tail _ (.tail _ (.tail _ (.tail _ (.tail _ (.tail _ (.tail _ (.tail _ (.tail _ (.tail _ (.tail _ (.tail _ (.head _)))))))))))))))
        exact e264
      refine Build.skipu 280 (by rfl) (by rw [k.size]; rfl) rfl rfl ?_ ?_
      · intro ax wx hE hR hF
        have e264 : ax.eval (.tmp 264) = _ := hF 25 (det 264 _) (by decide) (.tail _ (.tail _ (.tail _ (.tail _ (.tail _ (.tail _ (.tail _ (.tail _ (.tail _ (.tail _ (.tail _ (.tail _ (.tail _ (.tail _ (.tail _ (.head _))))))))))))))))
        exact e264
      refine Build.skipu 281 (by rfl) (by rw [k.size]; rfl) rfl rfl ?_ ?_
      · intro ax wx hE hR hF
        have e264 : ax.eval (.tmp 264) = _ := hF 25 (det 264 _) (by decide) (.tail _ (.tail _ (.tail _ (.tail _ (.tail _ (.tail _ (.tail _ (.tail _ (.tail _ (.tail _ (.tail _ (.tail _ (.tail _ (.tail _ (.tail _ (.tail _ (.head _)))))))))))))))))
        exact e264
      refine Build.skipu 282 (by rfl) (by rw [k.size]; rfl) rfl rfl ?_ ?_
      · intro ax wx hE hR hF
        have e264 : ax.eval (.tmp 264) = _ := hF 25 (det 264 _) (by decide) (.tail _ (.tail _ (.tail _ (.tail _ (.tail _ (.tail _ (.tail _ (.tail _ (.tail _ (.tail _ (.tail _ (.tail _ (.tail _ (.tail _ (.tail _ (.tail _ (.tail _ (.head _))))))))))))))))))
        exact e264
      refine Build.skipu 283 (by rfl) (by rw [k.size]; rfl) rfl rfl ?_ ?_
      · intro ax wx hE hR hF
        have e264 : ax.eval (.tmp 264) = _ := hF 25 (det 264 _) (by decide) (.tail _ (.tail _ (.tail _ (.tail _ (.tail _ (.tail _ (.tail _ (.tail _ (.tail _ (.tail _ (.tail _ (.tail _ (.tail _ (.tail _ (.tail _ (.tail _ (.tail _ (.tail _ (.head _)))))))))))))))))))
        exact e264
      refine Build.skipu 284 (by rfl) (by rw [k.size]; rfl) rfl rfl ?_ ?_
      · intro ax wx hE hR hF
        have e264 : ax.eval (.tmp 264) = _ := hF 25 (det 264 _) (by decide) (.tail _ (.tail _ (.tail _ (.tail _ (.tail _ (.tail _ (.tail _ (.tail _ (.tail _ (.tail _ (.tail _ (.tail _ (.tail _ (.tail _ (.tail _ (.tail _ (.tail _ (.tail _ (.tail _ (.head _))))))))))))))))))))
        exact e264
      refine Build.skip 285 (by rfl) (by rw [k.size]; rfl) rfl rfl ?_ ?_
      · intro ax wx hE hR hF
        have e261 : ax.eval (.tmp 261) = _ := hF 22 (det 261 _) (by decide) (.tail _ (.tail _ (.tail _ (.tail _ (.tail _ (.tail _ (.tail _ (.tail _ (.tail _ (.tail _ (.tail _ (.tail _ (.tail _ (.tail _ (.tail _ (.tail _ (.tail _ (.tail _ (.tail _ (.tail _ (.tail _ (.tail _ (.tail _ (.head _))))))))))))))))))))))))
        exact e261
      apply Build.detg 286 Ext.refl (by rfl) (by rw [k.size]; rfl) rfl rfl
      case h =>
        intro ax wx hE hR hF
        have e261 : ax.eval (.tmp 261) = _ := hF 22 (det 261 _) (by decide) (.tail _ (.tail _ (.tail _ (.tail _ (.tail _ (.tail _ (.tail _ (.tail _ (.tail _ (.tail _ (.tail _ (.tail _ (.tail _ (.tail _ (.tail _ (.tail _ (.tail _ (.tail _ (.tail _ (.tail _ (.tail _ (.tail _ (.tail _ (.tail _ (.head _)))))))))))))))))))))))))
        have e285 : ax.eval (.tmp 285) = _ := hF 46 (det 285 _) (by decide) (.head _)
        have e256 : ax.eval (.tmp 256) = _ := hF 17 (det 256 _) (by decide) (.tail _ (.tail _ (.tail _ (.tail _ (.tail _ (.tail _ (.tail _ (.tail _ (.tail _ (.tail _ (.tail _ (.tail _ (.tail _ (.tail _ (.tail _ (.tail _ (.tail _ (.tail _ (.tail _ (.tail _ (.tail _ (.tail _ (.tail _ (.tail _ (.tail _ (.tail _ (.tail _ (.tail _ (.tail _ (.head _))))))))))))))))))))))))))))))
        refine ⟨e256, ?_⟩
        exact x_pick_f rfl e261 rfl
      apply Build.det 287 Ext.refl (by rfl) (by rw [k.size]; rfl) rfl
      case h =>
        intro ax wx hE hR hF
        have e256 : ax.eval (.tmp 256) = _ := hF 17 (det 256 _) (by decide) (.tail _ (.tail _ (.tail _ (.tail _ (.tail _ (.tail _ (.tail _ (.tail _ (.tail _ (.tail _ (.tail _ (.tail _ (.tail _ (.tail _ (.tail _ (.tail _ (.tail _ (.tail _ (.tail _ (.tail _ (.tail _ (.tail _ (.tail _ (.tail _ (.tail _ (.tail _ (.tail _ (.tail _ (.tail _ (.tail _ (.head _)))))))))))))))))))))))))))))))
        have e286 : ax.eval (.tmp 286) = _ := hF 47 (det 286 _) (by decide) (.head _)
        exact x_pick_f rfl e256 e286
      apply Build.det 288 Ext.refl (by rfl) (by rw [k.size]; rfl) rfl
      case h =>
        intro ax wx hE hR hF
        have e287 : ax.eval (.tmp 287) = _ := hF 48 (det 287 _) (by decide) (.head _)
        exact x_move rfl e287
      apply Build.detg 289 Ext.refl (by rfl) (by rw [k.size]; rfl) rfl rfl
      case h =>
        intro ax wx hE hR hF
        have e288 : ax.eval (.tmp 288) = _ := hF 49 (det 288 _) (by decide) (.head _)
        refine ⟨e288, ?_⟩
        exact x_move rfl (hE.eval 21 (by rfl) e21)
      apply Build.detg 290 Ext.refl (by rfl) (by rw [k.size]; rfl) rfl rfl
      case h =>
        intro ax wx hE hR hF
        have e289 : ax.eval (.tmp 289) = _ := hF 50 (det 289 _) (by decide) (.head _)
        have e288 : ax.eval (.tmp 288) = _ := hF 49 (det 288 _) (by decide) (.tail _ (.head _))
        refine ⟨e288, ?_⟩
        exact x_neq rfl e289 rfl
      apply Build.detg 291 Ext.refl (by rfl) (by rw [k.size]; rfl) rfl rfl
      case h =>
        intro ax wx hE hR hF
        have e290 : ax.eval (.tmp 290) = _ := hF 51 (det 290 _) (by decide) (.head _)
        have e288 : ax.eval (.tmp 288) = _ := hF 49 (det 288 _) (by decide) (.tail _ (.tail _ (.head _)))
        refine ⟨e288, ?_⟩
        exact x_move rfl e290
      apply Build.detg 292 Ext.refl (by rfl) (by rw [k.size]; rfl) rfl rfl
      case h =>
        intro ax wx hE hR hF
        have e291 : ax.eval (.tmp 291) = _ := hF 52 (det 291 _) (by decide) (.head _)
        refine ⟨e291, ?_⟩
        exact x_move rfl (hE.eval 20 (by rfl) e20)
      apply Build.detg 293 Ext.refl (by rfl) (by rw [k.size]; rfl) rfl rfl
      case h =>
        intro ax wx hE hR hF
        have e292 : ax.eval (.tmp 292) = _ := hF 53 (det 292 _) (by decide) (.head _)
        have e291 : ax.eval (.tmp 291) = _ := hF 52 (det 291 _) (by decide) (.tail _ (.head _))
        refine ⟨e291, ?_⟩
        exact x_dec (x_nes (l := []) (m := []) rfl e292 rfl) (decide_eq_false (fun h => h rfl))
      apply Build.detg 294 Ext.refl (by rfl) (by rw [k.size]; rfl) rfl rfl
      case h =>
        intro ax wx hE hR hF
        have e291 : ax.eval (.tmp 291) = _ := hF 52 (det 291 _) (by decide) (.tail _ (.tail _ (.head _)))
        have e293 : ax.eval (.tmp 293) = _ := hF 54 (det 293 _) (by decide) (.head _)
        have e288 : ax.eval (.tmp 288) = _ := hF 49 (det 288 _) (by decide) (.tail _ (.tail _ (.tail _ (.tail _ (.tail _ (.head _))))))
        refine ⟨e288, ?_⟩
        exact x_pick_t rfl e291 e293
      apply Build.det 295 Ext.refl (by rfl) (by rw [k.size]; rfl) rfl
      case h =>
        intro ax wx hE hR hF
        have e288 : ax.eval (.tmp 288) = _ := hF 49 (det 288 _) (by decide) (.tail _ (.tail _ (.tail _ (.tail _ (.tail _ (.tail _ (.head _)))))))
        have e294 : ax.eval (.tmp 294) = _ := hF 55 (det 294 _) (by decide) (.head _)
        exact x_pick_f rfl e288 e294
      apply Build.stop
      refine ⟨by kernel_rfl, .inl ⟨rfl, ?_⟩⟩
      intro a39 w40 hE R hF
      have e295 : a39.eval (.tmp 295) = _ := hF 56 (det 295 _) (.head _)
      clear hF
      replace O := OwnT.ext O R
      clear R
      replace e2 := hE.eval 2 (by rfl) e2
      replace e3 := hE.eval 3 (by rfl) e3
      replace e10 := hE.eval 10 (by rfl) e10
      replace e11 := hE.eval 11 (by rfl) e11
      replace e12 := hE.eval 12 (by rfl) e12
      replace e14 := hE.eval 14 (by rfl) e14
      replace e15 := hE.eval 15 (by rfl) e15
      replace k := k.env hE
      clear hE e16 e17 e20 e21 e22
      refine then_n ?_
      refine cond_f e295 rfl ?_
      refine wp_skip ?_
      refine block_n ?_
      exact hQ _ _ _ _ _ _ _ k e2 e3 e10 e11 e12 e14 e15 hF (hM.mono (by omega)) O
    | true =>
      obtain ⟨G, hG⟩ : ∃ G, kG sz Sa La Sb Lb t x = G := ⟨_, rfl⟩
      have hGl : G.length = 16 * sz := by rw [← hG]; exact kG_len _ O hs hk
      have hf' := of_decide_eq_true hf
      obtain ⟨y, rfl⟩ := Int.eq_ofNat_of_zero_le hf'.1
      obtain ⟨z, rfl⟩ := Int.eq_ofNat_of_zero_le hf'.2.1
      have hyz : y + z ≤ sz := by obtain ⟨-, -, h1, h2⟩ := hf'; omega
      obtain ⟨P, hP⟩ : ∃ P, (G.take (16 * (y + z))).drop (16 * y) = P := ⟨_, rfl⟩
      have hrd : ∀ W, OwnT H A0 [tDisc p mb B na cap bm Sa La, tMn mb M, tDisc p2 mb B2 nb cap2 bm2 Sb Lb, tBlk db 149 #[.pointer (some ⟨p, 0, none⟩), .pointer (some ⟨p2, 0, none⟩), .int .i64 ↑sz], tBlk ub 107 #[.slice D1 na c1, .slice D2 nb c2, .int .i64 ↑sz], tRow 9 1 (.slice D1 na c1) na (strsV (nowL Sa La)), tRow 9 1 (.slice D2 nb c2) nb (strsV (nowL Sb Lb)), tBlk xb 101 #[.int .i64 3, .int .i64 t, .int .i64 x, .int .i64 t2, .int .i64 x2, .int .i64 ↑y, .int .i64 ↑z, .int .u8 ↑b.toNat]] W → Calls Try.prog 54 #[.pointer (some ⟨db, 0, none⟩), .agg #[.int .i64 t, .int .i64 x], .int .i64 y, .int .i64 z] W fun e w' => e = .returned (.tuple #[.string (sB P), .int .i64 0]) ∧ Ext W w' := by
        intro W O; rw [← hP, ← hG]; exact qread_ok y z W O hs hz hk hyz hF
      have hgt : ∀ W, OwnT H A0 [tDisc p mb B na cap bm Sa La, tMn mb M, tDisc p2 mb B2 nb cap2 bm2 Sb Lb, tBlk db 149 #[.pointer (some ⟨p, 0, none⟩), .pointer (some ⟨p2, 0, none⟩), .int .i64 ↑sz], tBlk ub 107 #[.slice D1 na c1, .slice D2 nb c2, .int .i64 ↑sz], tRow 9 1 (.slice D1 na c1) na (strsV (nowL Sa La)), tRow 9 1 (.slice D2 nb c2) nb (strsV (nowL Sb Lb)), tBlk xb 101 #[.int .i64 3, .int .i64 t, .int .i64 x, .int .i64 t2, .int .i64 x2, .int .i64 ↑y, .int .i64 ↑z, .int .u8 ↑b.toNat]] W → Calls Try.prog 61 #[.pointer (some ⟨ub, 0, none⟩), .int .i64 t, .int .i64 x] W fun e w' => e = .returned (.string (sB G)) ∧ Ext W w' := by
        intro W O; rw [← hG]; exact uget W (OwnT.pick O [4, 5, 6] (by decide)) hs hz hDA hDB hk
      refine wp_block ?_
      refine wp_seq ?_
      refine wp_region_lit ?_
      have hE := Env.refl a [204, 203]
      apply sq_det 204 hE k rfl (by rfl) (by rfl) rfl
      case h =>
        exact x_eql rfl (hE.eval 144 (by rfl) e144) rfl
      intro a41 hE e204 kp
      apply sq_det 203 hE k rfl (by rfl) (by rfl) rfl
      case h =>
        exact x_assign rfl e204
      intro a42 hE e203 kp
      refine wpList_nil ?_
      replace e2 := hE.eval 2 (by rfl) e2
      replace e3 := hE.eval 3 (by rfl) e3
      replace e10 := hE.eval 10 (by rfl) e10
      replace e11 := hE.eval 11 (by rfl) e11
      replace e12 := hE.eval 12 (by rfl) e12
      replace e14 := hE.eval 14 (by rfl) e14
      replace e15 := hE.eval 15 (by rfl) e15
      replace e16 := hE.eval 16 (by rfl) e16
      replace e17 := hE.eval 17 (by rfl) e17
      replace e18 := hE.eval 18 (by rfl) e18
      replace e19 := hE.eval 19 (by rfl) e19
      replace e144 := hE.eval 144 (by rfl) e144
      replace k := k.env hE
      clear hE
      refine then_n ?_
      refine cond_t e203 rfl ?_
      refine wp_seq ?_
      refine wp_region_lit ?_
      have hE := Env.refl a42 [206, 207, 208, 209, 210, 211, 212, 213, 205, 214, 215, 20, 21]
      apply sq_det 206 hE k rfl (by rfl) (by rfl) rfl
      case h =>
        exact x_move rfl (hE.eval 12 (by rfl) e12)
      intro a43 hE e206 kp
      apply sq_det 207 hE k rfl (by rfl) (by rfl) rfl
      case h =>
        simp [go_sem, ↓IntWalk.iteOmega, ev (hE.eval 16 (by rfl) e16)]
        with_reducible rfl
      intro a44 hE e207 kp
      replace e206 := (kp 206 rfl).trans e206
      apply sq_det 208 hE k rfl (by rfl) (by rfl) rfl
      case h =>
        have q0 : w.cell? ⟨xb, 1, none⟩ = some (.int .i64 t) := (OwnT.blk O 7 rfl).cell 1
        have q1 : w.cell? ⟨xb, 2, none⟩ = some (.int .i64 x) := (OwnT.blk O 7 rfl).cell 2
        simp [go_sem, ↓IntWalk.iteOmega, ev e207, q0, q1]
        with_reducible rfl
      intro a45 hE e208 kp
      replace e206 := (kp 206 rfl).trans e206
      apply sq_det 209 hE k rfl (by rfl) (by rfl) rfl
      case h =>
        simp [go_sem, ↓IntWalk.iteOmega, ev (hE.eval 16 (by rfl) e16)]
        with_reducible rfl
      intro a46 hE e209 kp
      replace e206 := (kp 206 rfl).trans e206
      replace e208 := (kp 208 rfl).trans e208
      apply sq_det 210 hE k rfl (by rfl) (by rfl) rfl
      case h =>
        have q0 : w.cell? ⟨xb, 5, none⟩ = some (.int .i64 ↑y) := (OwnT.blk O 7 rfl).cell 5
        simp [go_sem, ↓IntWalk.iteOmega, ev e209, q0]
        with_reducible rfl
      intro a47 hE e210 kp
      replace e206 := (kp 206 rfl).trans e206
      replace e208 := (kp 208 rfl).trans e208
      apply sq_det 211 hE k rfl (by rfl) (by rfl) rfl
      case h =>
        simp [go_sem, ↓IntWalk.iteOmega, ev (hE.eval 16 (by rfl) e16)]
        with_reducible rfl
      intro a48 hE e211 kp
      replace e206 := (kp 206 rfl).trans e206
      replace e208 := (kp 208 rfl).trans e208
      replace e210 := (kp 210 rfl).trans e210
      apply sq_det 212 hE k rfl (by rfl) (by rfl) rfl
      case h =>
        have q0 : w.cell? ⟨xb, 6, none⟩ = some (.int .i64 ↑z) := (OwnT.blk O 7 rfl).cell 6
        simp [go_sem, ↓IntWalk.iteOmega, ev e211, q0]
        with_reducible rfl
      intro a49 hE e212 kp
      replace e206 := (kp 206 rfl).trans e206
      replace e208 := (kp 208 rfl).trans e208
      replace e210 := (kp 210 rfl).trans e210
      apply sq_call 213 hE k rfl (by rfl) (by rfl) rfl
      case h =>
        simp [go_sem, ↓IntWalk.iteOmega, ev e206, ev e208, ev e210, ev e212]
        with_reducible exact ⟨rfl, rfl⟩
      case hc => exact hrd _ O
      rintro e w51 ⟨rfl, R⟩
      replace O := OwnT.ext O R
      refine ⟨_, rfl, ?_⟩
      intro a50 hE e213 kp
      apply sq_det 205 hE k rfl (by rfl) (by rfl) rfl
      case h =>
        exact x_move rfl e213
      intro a52 hE e205 kp
      apply sq_det 214 hE k rfl (by rfl) (by rfl) rfl
      case h =>
        simp [go_sem, ↓IntWalk.iteOmega, ev e205]
        with_reducible rfl
      intro a53 hE e214 kp
      replace e205 := (kp 205 rfl).trans e205
      apply sq_det 215 hE k rfl (by rfl) (by rfl) rfl
      case h =>
        simp [go_sem, ↓IntWalk.iteOmega, ev e205]
        with_reducible rfl
      intro a54 hE e215 kp
      replace e214 := (kp 214 rfl).trans e214
      apply sq_det 20 hE k rfl (by rfl) (by rfl) rfl
      case h =>
        exact x_assign rfl e214
      intro a55 hE e20 kp
      replace e215 := (kp 215 rfl).trans e215
      apply sq_det 21 hE k rfl (by rfl) (by rfl) rfl
      case h =>
        exact x_assign rfl e215
      intro a56 hE e21 kp
      replace e20 := (kp 20 rfl).trans e20
      refine wpList_nil ?_
      replace e2 := hE.eval 2 (by rfl) e2
      replace e3 := hE.eval 3 (by rfl) e3
      replace e10 := hE.eval 10 (by rfl) e10
      replace e11 := hE.eval 11 (by rfl) e11
      replace e12 := hE.eval 12 (by rfl) e12
      replace e14 := hE.eval 14 (by rfl) e14
      replace e15 := hE.eval 15 (by rfl) e15
      replace e16 := hE.eval 16 (by rfl) e16
      replace e17 := hE.eval 17 (by rfl) e17
      replace k := k.env hE
      clear hE e18 e19 e144 e203
      refine then_n ?_
      refine wp_seq ?_
      refine ck_fit32 (c := c) (v20 := (.string (sB P))) (v21 := (.int .i64 0)) (m := m) _ _ k e2 e3 e10 e11 e12 e14 e15 e16 e17 e20 e21 O hz hm ?_
      clear O
      intro a57 w58 k e2 e3 e10 e11 e12 e14 e15 e16 e17 e20 e21 e22 O
      refine then_n ?_
      rw [hk] at e17
      rw [hf] at e22
      refine wp_seq ?_
      refine wp_typed (R := Ext) (w0 := w58) [[], [0], [0, 1], [0, 1, 2], [0, 1, 2, 3], [0, 1, 2, 3, 4], [0, 1, 2, 3, 4, 5], [0, 1, 2, 3, 4, 5, 6], [0, 1, 2, 3, 4, 5, 6, 7], [0, 1, 2, 3, 4, 5, 6, 7, 8], [0, 1, 2, 3, 4, 5, 6, 7, 8, 9], [0, 1, 2, 3, 4, 5, 6, 7, 8, 9, 10], [0, 1, 2, 3, 4, 5, 6, 7, 8, 9, 10, 11], [0, 1, 2, 3, 4, 5, 6, 7, 8, 9, 10, 11, 12], [0, 1, 2, 3, 4, 5, 6, 7, 8, 9, 10, 11, 12, 13], [0, 1, 2, 3, 4, 5, 6, 7, 8, 9, 10, 11, 12, 13, 14], [0, 1, 2, 3, 4, 5, 6, 7, 8, 9, 10, 11, 12, 13, 14, 15], [0, 1, 2, 3, 4, 5, 6, 7, 8, 9, 10, 11, 12, 13, 14, 15, 16], [0, 1, 2, 3, 4, 5, 6, 7, 8, 9, 10, 11, 12, 13, 14, 15, 16, 17], [0, 1, 2, 3, 4, 5, 6, 7, 8, 9, 10, 11, 12, 13, 14, 15, 16, 17, 18], [0, 1, 2, 3, 4, 5, 6, 7, 8, 9, 10, 11, 12, 13, 14, 15, 16, 17, 18, 19], [0, 1, 2, 3, 4, 5, 6, 7, 8, 9, 10, 11, 12, 13, 14, 15, 16, 17, 18, 19, 20], [0, 1, 2, 3, 4, 5, 6, 7, 8, 9, 10, 11, 12, 13, 14, 15, 16, 17, 18, 19, 20, 21], [0, 1, 2, 3, 4, 5, 6, 7, 8, 9, 10, 11, 12, 13, 14, 15, 16, 17, 18, 19, 20, 21, 22], [0, 1, 2, 3, 4, 5, 6, 7, 8, 9, 10, 11, 12, 13, 14, 15, 16, 17, 18, 19, 20, 21, 22, 23], [0, 1, 2, 3, 4, 5, 6, 7, 8, 9, 10, 11, 12, 13, 14, 15, 16, 17, 18, 19, 20, 21, 22, 23, 24], [0, 1, 2, 3, 4, 5, 6, 7, 8, 9, 10, 11, 12, 13, 14, 15, 16, 17, 18, 19, 20, 21, 22, 23, 24, 25], [0, 1, 2, 3, 4, 5, 6, 7, 8, 9, 10, 11, 12, 13, 14, 15, 16, 17, 18, 19, 20, 21, 22, 23, 24, 25], [0, 1, 2, 3, 4, 5, 6, 7, 8, 9, 10, 11, 12, 13, 14, 15, 16, 17, 18, 19, 20, 21, 22, 23, 24, 25], [0, 1, 2, 3, 4, 5, 6, 7, 8, 9, 10, 11, 12, 13, 14, 15, 16, 17, 18, 19, 20, 21, 22, 23, 24, 25, 28], [0, 1, 2, 3, 4, 5, 6, 7, 8, 9, 10, 11, 12, 13, 14, 15, 16, 17, 18, 19, 20, 21, 22, 23, 24, 25, 28, 29], [0, 1, 2, 3, 4, 5, 6, 7, 8, 9, 10, 11, 12, 13, 14, 15, 16, 17, 18, 19, 20, 21, 22, 23, 24, 25], [0, 1, 2, 3, 4, 5, 6, 7, 8, 9, 10, 11, 12, 13, 14, 15, 16, 17, 18, 19, 20, 21, 22, 23, 24, 25, 31], [0, 1, 2, 3, 4, 5, 6, 7, 8, 9, 10, 11, 12, 13, 14, 15, 16, 17, 18, 19, 20, 21, 22, 23, 24, 25, 31, 32], [0, 1, 2, 3, 4, 5, 6, 7, 8, 9, 10, 11, 12, 13, 14, 15, 16, 17, 18, 19, 20, 21, 22, 23, 24, 25, 27, 28, 29, 30, 31, 32, 33], [0, 1, 2, 3, 4, 5, 6, 7, 8, 9, 10, 11, 12, 13, 14, 15, 16, 17, 18, 19, 20, 21, 22, 23, 24, 25], [0, 1, 2, 3, 4, 5, 6, 7, 8, 9, 10, 11, 12, 13, 14, 15, 16, 17, 18, 19, 20, 21, 22, 23, 24, 25, 35], [0, 1, 2, 3, 4, 5, 6, 7, 8, 9, 10, 11, 12, 13, 14, 15, 16, 17, 18, 19, 20, 21, 22, 23, 24, 25, 35, 36], [0, 1, 2, 3, 4, 5, 6, 7, 8, 9, 10, 11, 12, 13, 14, 15, 16, 17, 18, 19, 20, 21, 22, 23, 24, 25], [0, 1, 2, 3, 4, 5, 6, 7, 8, 9, 10, 11, 12, 13, 14, 15, 16, 17, 18, 19, 20, 21, 22, 23, 24, 25, 38], [0, 1, 2, 3, 4, 5, 6, 7, 8, 9, 10, 11, 12, 13, 14, 15, 16, 17, 18, 19, 20, 21, 22, 23, 24, 25], [0, 1, 2, 3, 4, 5, 6, 7, 8, 9, 10, 11, 12, 13, 14, 15, 16, 17, 18, 19, 20, 21, 22, 23, 24, 25, 40], [0, 1, 2, 3, 4, 5, 6, 7, 8, 9, 10, 11, 12, 13, 14, 15, 16, 17, 18, 19, 20, 21, 22, 23, 24, 25, 38, 39, 40, 41], [0, 1, 2, 3, 4, 5, 6, 7, 8, 9, 10, 11, 12, 13, 14, 15, 16, 17, 18, 19, 20, 21, 22, 23, 24, 25, 38, 39, 40, 41, 42], [0, 1, 2, 3, 4, 5, 6, 7, 8, 9, 10, 11, 12, 13, 14, 15, 16, 17, 18, 19, 20, 21, 22, 23, 24, 25, 27, 28, 29, 30, 31, 32, 33, 34, 35, 36, 37, 38, 39, 40, 41, 42, 43], [0, 1, 2, 3, 4, 5, 6, 7, 8, 9, 10, 11, 12, 13, 14, 15, 16, 17, 18, 19, 20, 21, 22, 23, 24, 25, 26, 27, 28, 29, 30, 31, 32, 33, 34, 35, 36, 37, 38, 39, 40, 41, 42, 43, 44], [0, 1, 2, 3, 4, 5, 6, 7, 8, 9, 10, 11, 12, 13, 14, 15, 16, 17, 18, 19, 20, 21, 22, 23, 24, 25, 26, 27, 28, 29, 30, 31, 32, 33, 34, 35, 36, 37, 38, 39, 40, 41, 42, 43, 44, 45], [0, 1, 2, 3, 4, 5, 6, 7, 8, 9, 10, 11, 12, 13, 14, 15, 16, 17, 18, 19, 20, 21, 22, 23, 24, 25, 26, 27, 28, 29, 30, 31, 32, 33, 34, 35, 36, 37, 38, 39, 40, 41, 42, 43, 44, 45, 46], [0, 1, 2, 3, 4, 5, 6, 7, 8, 9, 10, 11, 12, 13, 14, 15, 16, 17, 18, 19, 20, 21, 22, 23, 24, 25, 26, 27, 28, 29, 30, 31, 32, 33, 34, 35, 36, 37, 38, 39, 40, 41, 42, 43, 44, 45, 46, 47], [0, 1, 2, 3, 4, 5, 6, 7, 8, 9, 10, 11, 12, 13, 14, 15, 16, 17, 18, 19, 20, 21, 22, 23, 24, 25, 26, 27, 28, 29, 30, 31, 32, 33, 34, 35, 36, 37, 38, 39, 40, 41, 42, 43, 44, 45, 46, 47, 48], [0, 1, 2, 3, 4, 5, 6, 7, 8, 9, 10, 11, 12, 13, 14, 15, 16, 17, 18, 19, 20, 21, 22, 23, 24, 25, 26, 27, 28, 29, 30, 31, 32, 33, 34, 35, 36, 37, 38, 39, 40, 41, 42, 43, 44, 45, 46, 47, 48, 49], [0, 1, 2, 3, 4, 5, 6, 7, 8, 9, 10, 11, 12, 13, 14, 15, 16, 17, 18, 19, 20, 21, 22, 23, 24, 25, 26, 27, 28, 29, 30, 31, 32, 33, 34, 35, 36, 37, 38, 39, 40, 41, 42, 43, 44, 45, 46, 47, 48, 49, 50], [0, 1, 2, 3, 4, 5, 6, 7, 8, 9, 10, 11, 12, 13, 14, 15, 16, 17, 18, 19, 20, 21, 22, 23, 24, 25, 26, 27, 28, 29, 30, 31, 32, 33, 34, 35, 36, 37, 38, 39, 40, 41, 42, 43, 44, 45, 46, 47, 48, 49, 50, 51], [0, 1, 2, 3, 4, 5, 6, 7, 8, 9, 10, 11, 12, 13, 14, 15, 16, 17, 18, 19, 20, 21, 22, 23, 24, 25, 26, 27, 28, 29, 30, 31, 32, 33, 34, 35, 36, 37, 38, 39, 40, 41, 42, 43, 44, 45, 46, 47, 48, 49, 50, 51, 52], [0, 1, 2, 3, 4, 5, 6, 7, 8, 9, 10, 11, 12, 13, 14, 15, 16, 17, 18, 19, 20, 21, 22, 23, 24, 25, 26, 27, 28, 29, 30, 31, 32, 33, 34, 35, 36, 37, 38, 39, 40, 41, 42, 43, 44, 45, 46, 47, 48, 49, 50, 51, 52, 53], [0, 1, 2, 3, 4, 5, 6, 7, 8, 9, 10, 11, 12, 13, 14, 15, 16, 17, 18, 19, 20, 21, 22, 23, 24, 25, 26, 27, 28, 29, 30, 31, 32, 33, 34, 35, 36, 37, 38, 39, 40, 41, 42, 43, 44, 45, 46, 47, 48, 49, 50, 51, 52, 53, 54], [0, 1, 2, 3, 4, 5, 6, 7, 8, 9, 10, 11, 12, 13, 14, 15, 16, 17, 18, 19, 20, 21, 22, 23, 24, 25, 26, 27, 28, 29, 30, 31, 32, 33, 34, 35, 36, 37, 38, 39, 40, 41, 42, 43, 44, 45, 46, 47, 48, 49, 50, 51, 52, 53, 54, 55]] [239, 240, 241, 242, 243, 244, 245, 246, 247, 248, 249, 250, 251, 252, 253, 254, 255, 256, 257, 258, 259, 260, 261, 262, 263, 264, 265, 266, 267, 268, 269, 270, 271, 272, 273, 274, 275, 276, 277, 278, 279, 280, 281, 282, 283, 284, 285, 286, 287, 288, 289, 290, 291, 292, 293, 294, 295] Ext.refl (fun _ _ _ => Ext.trans) (Ext.drew _) (by kernel_rfl) ?_
      apply Build.det 239 Ext.refl (by rfl) (by rw [k.size]; rfl) rfl
      case h =>
        intro ax wx hE hR hF
        exact x_move rfl (hE.eval 17 (by rfl) e17)
      apply Build.det 240 Ext.refl (by rfl) (by rw [k.size]; rfl) rfl
      case h =>
        intro ax wx hE hR hF
        have e239 : ax.eval (.tmp 239) = _ := hF 0 (det 239 _) (by decide) (.head _)
        exact x_not rfl e239
      apply Build.det 241 Ext.refl (by rfl) (by rw [k.size]; rfl) rfl
      case h =>
        intro ax wx hE hR hF
        have e240 : ax.eval (.tmp 240) = _ := hF 1 (det 240 _) (by decide) (.head _)
        exact x_move rfl e240
      refine Build.skip 242 (by rfl) (by rw [k.size]; rfl) rfl rfl ?_ ?_
      · intro ax wx hE hR hF
        have e241 : ax.eval (.tmp 241) = _ := hF 2 (det 241 _) (by decide) (.head _)
        exact e241
      refine Build.skip 243 (by rfl) (by rw [k.size]; rfl) rfl rfl ?_ ?_
      · intro ax wx hE hR hF
        have e241 : ax.eval (.tmp 241) = _ := hF 2 (det 241 _) (by decide) (.tail _ (.head _))
        exact e241
      apply Build.det 244 Ext.refl (by rfl) (by rw [k.size]; rfl) rfl
      case h =>
        intro ax wx hE hR hF
        have e241 : ax.eval (.tmp 241) = _ := hF 2 (det 241 _) (by decide) (.tail _ (.tail _ (.head _)))
        have e243 : ax.eval (.tmp 243) = _ := hF 4 (det 243 _) (by decide) (.head _)
        exact x_pick_f rfl e241 rfl
      apply Build.det 245 Ext.refl (by rfl) (by rw [k.size]; rfl) rfl
      case h =>
        intro ax wx hE hR hF
        have e244 : ax.eval (.tmp 244) = _ := hF 5 (det 244 _) (by decide) (.head _)
        exact x_move rfl e244
      apply Build.detg 246 Ext.refl (by rfl) (by rw [k.size]; rfl) rfl rfl
      case h =>
        intro ax wx hE hR hF
        have e245 : ax.eval (.tmp 245) = _ := hF 6 (det 245 _) (by decide) (.head _)
        refine ⟨e245, ?_⟩
        exact x_move rfl (hE.eval 17 (by rfl) e17)
      apply Build.detg 247 Ext.refl (by rfl) (by rw [k.size]; rfl) rfl rfl
      case h =>
        intro ax wx hE hR hF
        have e246 : ax.eval (.tmp 246) = _ := hF 7 (det 246 _) (by decide) (.head _)
        have e245 : ax.eval (.tmp 245) = _ := hF 6 (det 245 _) (by decide) (.tail _ (.head _))
        refine ⟨e245, ?_⟩
        exact x_move rfl e246
      apply Build.detg 248 Ext.refl (by rfl) (by rw [k.size]; rfl) rfl rfl
      case h =>
        intro ax wx hE hR hF
        have e247 : ax.eval (.tmp 247) = _ := hF 8 (det 247 _) (by decide) (.head _)
        refine ⟨e247, ?_⟩
        exact x_move rfl (hE.eval 22 (by rfl) e22)
      apply Build.detg 249 Ext.refl (by rfl) (by rw [k.size]; rfl) rfl rfl
      case h =>
        intro ax wx hE hR hF
        have e248 : ax.eval (.tmp 248) = _ := hF 9 (det 248 _) (by decide) (.head _)
        have e247 : ax.eval (.tmp 247) = _ := hF 8 (det 247 _) (by decide) (.tail _ (.head _))
        refine ⟨e247, ?_⟩
        exact x_not rfl e248
      apply Build.detg 250 Ext.refl (by rfl) (by rw [k.size]; rfl) rfl rfl
      case h =>
        intro ax wx hE hR hF
        have e247 : ax.eval (.tmp 247) = _ := hF 8 (det 247 _) (by decide) (.tail _ (.tail _ (.head _)))
        have e249 : ax.eval (.tmp 249) = _ := hF 10 (det 249 _) (by decide) (.head _)
        have e245 : ax.eval (.tmp 245) = _ := hF 6 (det 245 _) (by decide) (.tail _ (.tail _ (.tail _ (.tail _ (.head _)))))
        refine ⟨e245, ?_⟩
        exact x_pick_t rfl e247 e249
      apply Build.detg 251 Ext.refl (by rfl) (by rw [k.size]; rfl) rfl rfl
      case h =>
        intro ax wx hE hR hF
        have e250 : ax.eval (.tmp 250) = _ := hF 11 (det 250 _) (by decide) (.head _)
        have e245 : ax.eval (.tmp 245) = _ := hF 6 (det 245 _) (by decide) (.tail _ (.tail _ (.tail _ (.tail _ (.tail _ (.head _))))))
        refine ⟨e245, ?_⟩
        exact x_move rfl e250
      refine Build.skip 252 (by rfl) (by rw [k.size]; rfl) rfl rfl ?_ ?_
      · intro ax wx hE hR hF
        have e251 : ax.eval (.tmp 251) = _ := hF 12 (det 251 _) (by decide) (.head _)
        exact e251
      refine Build.skip 253 (by rfl) (by rw [k.size]; rfl) rfl rfl ?_ ?_
      · intro ax wx hE hR hF
        have e251 : ax.eval (.tmp 251) = _ := hF 12 (det 251 _) (by decide) (.tail _ (.head _))
        exact e251
      apply Build.detg 254 Ext.refl (by rfl) (by rw [k.size]; rfl) rfl rfl
      case h =>
        intro ax wx hE hR hF
        have e251 : ax.eval (.tmp 251) = _ := hF 12 (det 251 _) (by decide) (.tail _ (.tail _ (.head _)))
        have e253 : ax.eval (.tmp 253) = _ := hF 14 (det 253 _) (by decide) (.head _)
        have e245 : ax.eval (.tmp 245) = _ := hF 6 (det 245 _) (by decide) (.tail _ (.tail _ (.tail _ (.tail _ (.tail _ (.tail _ (.tail _ (.tail _ (.head _)))))))))
        refine ⟨e245, ?_⟩
        exact x_pick_f rfl e251 rfl
      apply Build.det 255 Ext.refl (by rfl) (by rw [k.size]; rfl) rfl
      case h =>
        intro ax wx hE hR hF
        have e245 : ax.eval (.tmp 245) = _ := hF 6 (det 245 _) (by decide) (.tail _ (.tail _ (.tail _ (.tail _ (.tail _ (.tail _ (.tail _ (.tail _ (.tail _ (.head _))))))))))
        have e254 : ax.eval (.tmp 254) = _ := hF 15 (det 254 _) (by decide) (.head _)
        exact x_pick_f rfl e245 e254
      apply Build.det 256 Ext.refl (by rfl) (by rw [k.size]; rfl) rfl
      case h =>
        intro ax wx hE hR hF
        have e255 : ax.eval (.tmp 255) = _ := hF 16 (det 255 _) (by decide) (.head _)
        exact x_move rfl e255
      apply Build.detg 257 Ext.refl (by rfl) (by rw [k.size]; rfl) rfl rfl
      case h =>
        intro ax wx hE hR hF
        have e256 : ax.eval (.tmp 256) = _ := hF 17 (det 256 _) (by decide) (.head _)
        refine ⟨e256, ?_⟩
        exact x_move rfl (hE.eval 17 (by rfl) e17)
      apply Build.detg 258 Ext.refl (by rfl) (by rw [k.size]; rfl) rfl rfl
      case h =>
        intro ax wx hE hR hF
        have e257 : ax.eval (.tmp 257) = _ := hF 18 (det 257 _) (by decide) (.head _)
        have e256 : ax.eval (.tmp 256) = _ := hF 17 (det 256 _) (by decide) (.tail _ (.head _))
        refine ⟨e256, ?_⟩
        exact x_move rfl e257
      apply Build.detg 259 Ext.refl (by rfl) (by rw [k.size]; rfl) rfl rfl
      case h =>
        intro ax wx hE hR hF
        have e258 : ax.eval (.tmp 258) = _ := hF 19 (det 258 _) (by decide) (.head _)
        refine ⟨e258, ?_⟩
        exact x_move rfl (hE.eval 22 (by rfl) e22)
      apply Build.detg 260 Ext.refl (by rfl) (by rw [k.size]; rfl) rfl rfl
      case h =>
        intro ax wx hE hR hF
        have e258 : ax.eval (.tmp 258) = _ := hF 19 (det 258 _) (by decide) (.tail _ (.head _))
        have e259 : ax.eval (.tmp 259) = _ := hF 20 (det 259 _) (by decide) (.head _)
        have e256 : ax.eval (.tmp 256) = _ := hF 17 (det 256 _) (by decide) (.tail _ (.tail _ (.tail _ (.head _))))
        refine ⟨e256, ?_⟩
        exact x_pick_t rfl e258 e259
      apply Build.detg 261 Ext.refl (by rfl) (by rw [k.size]; rfl) rfl rfl
      case h =>
        intro ax wx hE hR hF
        have e260 : ax.eval (.tmp 260) = _ := hF 21 (det 260 _) (by decide) (.head _)
        have e256 : ax.eval (.tmp 256) = _ := hF 17 (det 256 _) (by decide) (.tail _ (.tail _ (.tail _ (.tail _ (.head _)))))
        refine ⟨e256, ?_⟩
        exact x_move rfl e260
      apply Build.detg 262 Ext.refl (by rfl) (by rw [k.size]; rfl) rfl rfl
      case h =>
        intro ax wx hE hR hF
        have e261 : ax.eval (.tmp 261) = _ := hF 22 (det 261 _) (by decide) (.head _)
        refine ⟨e261, ?_⟩
        exact x_move rfl (hE.eval 21 (by rfl) e21)
      apply Build.detg 263 Ext.refl (by rfl) (by rw [k.size]; rfl) rfl rfl
      case h =>
        intro ax wx hE hR hF
        have e262 : ax.eval (.tmp 262) = _ := hF 23 (det 262 _) (by decide) (.head _)
        have e261 : ax.eval (.tmp 261) = _ := hF 22 (det 261 _) (by decide) (.tail _ (.head _))
        refine ⟨e261, ?_⟩
        exact x_neq rfl e262 rfl
      apply Build.detg 264 Ext.refl (by rfl) (by rw [k.size]; rfl) rfl rfl
      case h =>
        intro ax wx hE hR hF
        have e263 : ax.eval (.tmp 263) = _ := hF 24 (det 263 _) (by decide) (.head _)
        have e261 : ax.eval (.tmp 261) = _ := hF 22 (det 261 _) (by decide) (.tail _ (.tail _ (.head _)))
        refine ⟨e261, ?_⟩
        exact x_move rfl e263
      apply Build.detg 265 Ext.refl (by rfl) (by rw [k.size]; rfl) rfl rfl
      case h =>
        intro ax wx hE hR hF
        have e264 : ax.eval (.tmp 264) = _ := hF 25 (det 264 _) (by decide) (.head _)
        refine ⟨e264, ?_⟩
        exact x_move rfl (hE.eval 20 (by rfl) e20)
      apply Build.detg 266 Ext.refl (by rfl) (by rw [k.size]; rfl) rfl rfl
      case h =>
        intro ax wx hE hR hF
        have e264 : ax.eval (.tmp 264) = _ := hF 25 (det 264 _) (by decide) (.tail _ (.head _))
        refine ⟨e264, ?_⟩
        exact x_move rfl (hE.eval 14 (by rfl) e14)
      apply Build.detg 267 Ext.refl (by rfl) (by rw [k.size]; rfl) rfl rfl
      case h =>
        intro ax wx hE hR hF
        have e264 : ax.eval (.tmp 264) = _ := hF 25 (det 264 _) (by decide) (.tail _ (.tail _ (.head _)))
        refine ⟨e264, ?_⟩
        simp [go_sem, ↓IntWalk.iteOmega, ev (hE.eval 16 (by rfl) e16)]
        with_reducible rfl
      apply Build.detg 268 Ext.refl (by rfl) (by rw [k.size]; rfl) rfl rfl
      case h =>
        intro ax wx hE hR hF
        have e267 : ax.eval (.tmp 267) = _ := hF 28 (det 267 _) (by decide) (.head _)
        have e264 : ax.eval (.tmp 264) = _ := hF 25 (det 264 _) (by decide) (.tail _ (.tail _ (.tail _ (.head _))))
        refine ⟨e264, ?_⟩
        simp [go_sem, ↓IntWalk.iteOmega, ev e267]
        with_reducible rfl
      apply Build.detg 269 Ext.refl (by rfl) (by rw [k.size]; rfl) rfl rfl
      case h =>
        intro ax wx hE hR hF
        have e268 : ax.eval (.tmp 268) = _ := hF 29 (det 268 _) (by decide) (.head _)
        have e264 : ax.eval (.tmp 264) = _ := hF 25 (det 264 _) (by decide) (.tail _ (.tail _ (.tail _ (.tail _ (.head _)))))
        refine ⟨e264, ?_⟩
        have q0 : wx.cell? ⟨xb, 1, none⟩ = some (.int .i64 t) := (OwnT.blk (OwnT.ext O hR) 7 rfl).cell 1
        simp [go_sem, ↓IntWalk.iteOmega, ev e268, q0]
        with_reducible rfl
      apply Build.detg 270 Ext.refl (by rfl) (by rw [k.size]; rfl) rfl rfl
      case h =>
        intro ax wx hE hR hF
        have e264 : ax.eval (.tmp 264) = _ := hF 25 (det 264 _) (by decide) (.tail _ (.tail _ (.tail _ (.tail _ (.tail _ (.head _))))))
        refine ⟨e264, ?_⟩
        simp [go_sem, ↓IntWalk.iteOmega, ev (hE.eval 16 (by rfl) e16)]
        with_reducible rfl
      apply Build.detg 271 Ext.refl (by rfl) (by rw [k.size]; rfl) rfl rfl
      case h =>
        intro ax wx hE hR hF
        have e270 : ax.eval (.tmp 270) = _ := hF 31 (det 270 _) (by decide) (.head _)
        have e264 : ax.eval (.tmp 264) = _ := hF 25 (det 264 _) (by decide) (.tail _ (.tail _ (.tail _ (.tail _ (.tail _ (.tail _ (.head _)))))))
        refine ⟨e264, ?_⟩
        simp [go_sem, ↓IntWalk.iteOmega, ev e270]
        with_reducible rfl
      apply Build.detg 272 Ext.refl (by rfl) (by rw [k.size]; rfl) rfl rfl
      case h =>
        intro ax wx hE hR hF
        have e271 : ax.eval (.tmp 271) = _ := hF 32 (det 271 _) (by decide) (.head _)
        have e264 : ax.eval (.tmp 264) = _ := hF 25 (det 264 _) (by decide) (.tail _ (.tail _ (.tail _ (.tail _ (.tail _ (.tail _ (.tail _ (.head _))))))))
        refine ⟨e264, ?_⟩
        have q0 : wx.cell? ⟨xb, 2, none⟩ = some (.int .i64 x) := (OwnT.blk (OwnT.ext O hR) 7 rfl).cell 2
        simp [go_sem, ↓IntWalk.iteOmega, ev e271, q0]
        with_reducible rfl
      apply Build.callg 273 Ext.refl (by rfl) (by rw [k.size]; rfl) rfl rfl
      case h =>
        intro ax wx hE hR hF
        have e266 : ax.eval (.tmp 266) = _ := hF 27 (det 266 _) (by decide) (.tail _ (.tail _ (.tail _ (.tail _ (.tail _ (.tail _ (.head _)))))))
        have e269 : ax.eval (.tmp 269) = _ := hF 30 (det 269 _) (by decide) (.tail _ (.tail _ (.tail _ (.head _))))
        have e272 : ax.eval (.tmp 272) = _ := hF 33 (det 272 _) (by decide) (.head _)
        have e264 : ax.eval (.tmp 264) = _ := hF 25 (det 264 _) (by decide) (.tail _ (.tail _ (.tail _ (.tail _ (.tail _ (.tail _ (.tail _ (.tail _ (.head _)))))))))
        refine ⟨e264, ?_⟩
        simp [go_sem, ↓IntWalk.iteOmega, ev e266, ev e269, ev e272]
        with_reducible exact ⟨rfl, rfl⟩
      case hc => intro wx hR; exact hgt wx (OwnT.ext O hR)
      apply Build.detg 274 Ext.refl (by rfl) (by rw [k.size]; rfl) rfl rfl
      case h =>
        intro ax wx hE hR hF
        have e264 : ax.eval (.tmp 264) = _ := hF 25 (det 264 _) (by decide) (.tail _ (.tail _ (.tail _ (.tail _ (.tail _ (.tail _ (.tail _ (.tail _ (.tail _ (.head _))))))))))
        refine ⟨e264, ?_⟩
        simp [go_sem, ↓IntWalk.iteOmega, ev (hE.eval 16 (by rfl) e16)]
        with_reducible rfl
      apply Build.detg 275 Ext.refl (by rfl) (by rw [k.size]; rfl) rfl rfl
      case h =>
        intro ax wx hE hR hF
        have e274 : ax.eval (.tmp 274) = _ := hF 35 (det 274 _) (by decide) (.head _)
        have e264 : ax.eval (.tmp 264) = _ := hF 25 (det 264 _) (by decide) (.tail _ (.tail _ (.tail _ (.tail _ (.tail _ (.tail _ (.tail _ (.tail _ (.tail _ (.tail _ (.head _)))))))))))
        refine ⟨e264, ?_⟩
        have q0 : wx.cell? ⟨xb, 5, none⟩ = some (.int .i64 ↑y) := (OwnT.blk (OwnT.ext O hR) 7 rfl).cell 5
        simp [go_sem, ↓IntWalk.iteOmega, ev e274, q0]
        with_reducible rfl
      apply Build.detg 276 Ext.refl (by rfl) (by rw [k.size]; rfl) rfl rfl
      case h =>
        intro ax wx hE hR hF
        have e275 : ax.eval (.tmp 275) = _ := hF 36 (det 275 _) (by decide) (.head _)
        have e264 : ax.eval (.tmp 264) = _ := hF 25 (det 264 _) (by decide) (.tail _ (.tail _ (.tail _ (.tail _ (.tail _ (.tail _ (.tail _ (.tail _ (.tail _ (.tail _ (.tail _ (.head _))))))))))))
        refine ⟨e264, ?_⟩
        exact x_val (v := .int .i64 ((16 * y : Nat) : Int)) (x_mul rfl rfl e275 (by omega)) (int_eq (by omega))
      apply Build.detg 277 Ext.refl (by rfl) (by rw [k.size]; rfl) rfl rfl
      case h =>
        intro ax wx hE hR hF
        have e264 : ax.eval (.tmp 264) = _ := hF 25 (det 264 _) (by decide) (.tail _ (.tail _ (.tail _ (.tail _ (.tail _ (.tail _ (.tail _ (.tail _ (.tail _ (.tail _ (.tail _ (.tail _ (.head _)))))))))))))
        refine ⟨e264, ?_⟩
        simp [go_sem, ↓IntWalk.iteOmega, ev (hE.eval 16 (by rfl) e16)]
        with_reducible rfl
      apply Build.detg 278 Ext.refl (by rfl) (by rw [k.size]; rfl) rfl rfl
      case h =>
        intro ax wx hE hR hF
        have e277 : ax.eval (.tmp 277) = _ := hF 38 (det 277 _) (by decide) (.head _)
        have e264 : ax.eval (.tmp 264) = _ := hF 25 (det 264 _) (by decide) (.tail _ (.tail _ (.tail _ (.tail _ (.tail _ (.tail _ (.tail _ (.tail _ (.tail _ (.tail _ (.tail _ (.tail _ (.tail _ (.head _))))))))))))))
        refine ⟨e264, ?_⟩
        have q0 : wx.cell? ⟨xb, 5, none⟩ = some (.int .i64 ↑y) := (OwnT.blk (OwnT.ext O hR) 7 rfl).cell 5
        simp [go_sem, ↓IntWalk.iteOmega, ev e277, q0]
        with_reducible rfl
      apply Build.detg 279 Ext.refl (by rfl) (by rw [k.size]; rfl) rfl rfl
      case h =>
        intro ax wx hE hR hF
        have e264 : ax.eval (.tmp 264) = _ := hF 25 (det 264 _) (by decide) (.tail _ (.tail _ (.tail _ (.tail _ (.tail _ (.tail _ (.tail _ (.tail _ (.tail _ (.tail _ (.tail _ (.tail _ (.tail _ (.tail _ (.head _)))))))))))))))
        refine ⟨e264, ?_⟩
        simp [go_sem, ↓IntWalk.iteOmega, ev (hE.eval 16 (by rfl) e16)]
        with_reducible rfl
      apply Build.detg 280 Ext.refl (by rfl) (by rw [k.size]; rfl) rfl rfl
      case h =>
        intro ax wx hE hR hF
        have e279 : ax.eval (.tmp 279) = _ := hF 40 (det 279 _) (by decide) (.head _)
        have e264 : ax.eval (.tmp 264) = _ := hF 25 (det 264 _) (by decide) (.tail _ (.tail _ (.tail _ (.tail _ (.tail _ (.tail _ (.tail _ (.tail _ (.tail _ (.tail _ (.tail _ (.tail _ (.tail _ (.tail _ (.tail _ (.head _))))))))))))))))
        refine ⟨e264, ?_⟩
        have q0 : wx.cell? ⟨xb, 6, none⟩ = some (.int .i64 ↑z) := (OwnT.blk (OwnT.ext O hR) 7 rfl).cell 6
        simp [go_sem, ↓IntWalk.iteOmega, ev e279, q0]
        with_reducible rfl
      apply Build.detg 281 Ext.refl (by rfl) (by rw [k.size]; rfl) rfl rfl
      case h =>
        intro ax wx hE hR hF
        have e278 : ax.eval (.tmp 278) = _ := hF 39 (det 278 _) (by decide) (.tail _ (.tail _ (.head _)))
        have e280 : ax.eval (.tmp 280) = _ := hF 41 (det 280 _) (by decide) (.head _)
        have e264 : ax.eval (.tmp 264) = _ := hF 25 (det 264 _) (by decide) (.tail _ (.tail _ (.tail _ (.tail _ (.tail _ (.tail _ (.tail _ (.tail _ (.tail _ (.tail _ (.tail _ (.tail _ (.tail _ (.tail _ (.tail _ (.tail _ (.head _)))))))))))))))))
        refine ⟨e264, ?_⟩
        exact x_val (v := .int .i64 ((y + z : Nat) : Int)) (x_add rfl e278 e280 (by omega)) (int_eq (by omega))
      apply Build.detg 282 Ext.refl (by rfl) (by rw [k.size]; rfl) rfl rfl
      case h =>
        intro ax wx hE hR hF
        have e281 : ax.eval (.tmp 281) = _ := hF 42 (det 281 _) (by decide) (.head _)
        have e264 : ax.eval (.tmp 264) = _ := hF 25 (det 264 _) (by decide) (.tail _ (.tail _ (.tail _ (.tail _ (.tail _ (.tail _ (.tail _ (.tail _ (.tail _ (.tail _ (.tail _ (.tail _ (.tail _ (.tail _ (.tail _ (.tail _ (.tail _ (.head _))))))))))))))))))
        refine ⟨e264, ?_⟩
        exact x_val (v := .int .i64 ((16 * (y + z) : Nat) : Int)) (x_mul rfl rfl e281 (by omega)) (int_eq (by omega))
      apply Build.detg 283 Ext.refl (by rfl) (by rw [k.size]; rfl) rfl rfl
      case h =>
        intro ax wx hE hR hF
        have e273 : ax.eval (.tmp 273) = _ := hF 34 (det 273 _) (by decide) (.tail _ (.tail _ (.tail _ (.tail _ (.tail _ (.tail _ (.tail _ (.tail _ (.tail _ (.head _))))))))))
        have e276 : ax.eval (.tmp 276) = _ := hF 37 (det 276 _) (by decide) (.tail _ (.tail _ (.tail _ (.tail _ (.tail _ (.tail _ (.head _)))))))
        have e282 : ax.eval (.tmp 282) = _ := hF 43 (det 282 _) (by decide) (.head _)
        have e264 : ax.eval (.tmp 264) = _ := hF 25 (det 264 _) (by decide) (.tail _ (.tail _ (.tail _ (.tail _ (.tail _ (.tail _ (.tail _ (.tail _ (.tail _ (.tail _ (.tail _ (.tail _ (.tail _ (.tail _ (.tail _ (.tail _ (.tail _ (.tail _ (.head _)))))))))))))))))))
        refine ⟨e264, ?_⟩
        exact x_cut_both (l := G) (a := 16 * y) (b := 16 * (y + z)) Try.underlying9 rfl e273 e276 e282 (by omega) (by omega)
      apply Build.detg 284 Ext.refl (by rfl) (by rw [k.size]; rfl) rfl rfl
      case h =>
        intro ax wx hE hR hF
        have e265 : ax.eval (.tmp 265) = _ := hF 26 (det 265 _) (by decide) (.tail _ (.tail _ (.tail _ (.tail _ (.tail _ (.tail _ (.tail _ (.tail _ (.tail _ (.tail _ (.tail _ (.tail _ (.tail _ (.tail _ (.tail _ (.tail _ (.tail _ (.tail _ (.head _)))))))))))))))))))
        have e283 : ax.eval (.tmp 283) = _ := hF 44 (det 283 _) (by decide) (.head _)
        have e264 : ax.eval (.tmp 264) = _ := hF 25 (det 264 _) (by decide) (.tail _ (.tail _ (.tail _ (.tail _ (.tail _ (.tail _ (.tail _ (.tail _ (.tail _ (.tail _ (.tail _ (.tail _ (.tail _ (.tail _ (.tail _ (.tail _ (.tail _ (.tail _ (.tail _ (.head _))))))))))))))))))))
        refine ⟨e264, ?_⟩
        exact x_dec (x_nes (l := P) (m := (G.take (16 * (y + z))).drop (16 * y)) rfl e265 e283) (decide_eq_false (fun h => h hP.symm))
      apply Build.detg 285 Ext.refl (by rfl) (by rw [k.size]; rfl) rfl rfl
      case h =>
        intro ax wx hE hR hF
        have e264 : ax.eval (.tmp 264) = _ := hF 25 (det 264 _) (by decide) (.tail _ (.tail _ (.tail _ (.tail _ (.tail _ (.tail _ (.tail _ (.tail _ (.tail _ (.tail _ (.tail _ (.tail _ (.tail _ (.tail _ (.tail _ (.tail _ (.tail _ (.tail _ (.tail _ (.tail _ (.head _)))))))))))))))))))))
        have e284 : ax.eval (.tmp 284) = _ := hF 45 (det 284 _) (by decide) (.head _)
        have e261 : ax.eval (.tmp 261) = _ := hF 22 (det 261 _) (by decide) (.tail _ (.tail _ (.tail _ (.tail _ (.tail _ (.tail _ (.tail _ (.tail _ (.tail _ (.tail _ (.tail _ (.tail _ (.tail _ (.tail _ (.tail _ (.tail _ (.tail _ (.tail _ (.tail _ (.tail _ (.tail _ (.tail _ (.tail _ (.head _))))))))))))))))))))))))
        refine ⟨e261, ?_⟩
        exact x_pick_f rfl e264 e284
      apply Build.detg 286 Ext.refl (by rfl) (by rw [k.size]; rfl) rfl rfl
      case h =>
        intro ax wx hE hR hF
        have e261 : ax.eval (.tmp 261) = _ := hF 22 (det 261 _) (by decide) (.tail _ (.tail _ (.tail _ (.tail _ (.tail _ (.tail _ (.tail _ (.tail _ (.tail _ (.tail _ (.tail _ (.tail _ (.tail _ (.tail _ (.tail _ (.tail _ (.tail _ (.tail _ (.tail _ (.tail _ (.tail _ (.tail _ (.tail _ (.tail _ (.head _)))))))))))))))))))))))))
        have e285 : ax.eval (.tmp 285) = _ := hF 46 (det 285 _) (by decide) (.head _)
        have e256 : ax.eval (.tmp 256) = _ := hF 17 (det 256 _) (by decide) (.tail _ (.tail _ (.tail _ (.tail _ (.tail _ (.tail _ (.tail _ (.tail _ (.tail _ (.tail _ (.tail _ (.tail _ (.tail _ (.tail _ (.tail _ (.tail _ (.tail _ (.tail _ (.tail _ (.tail _ (.tail _ (.tail _ (.tail _ (.tail _ (.tail _ (.tail _ (.tail _ (.tail _ (.tail _ (.head _))))))))))))))))))))))))))))))
        refine ⟨e256, ?_⟩
        exact x_pick_t rfl e261 e285
      apply Build.det 287 Ext.refl (by rfl) (by rw [k.size]; rfl) rfl
      case h =>
        intro ax wx hE hR hF
        have e256 : ax.eval (.tmp 256) = _ := hF 17 (det 256 _) (by decide) (.tail _ (.tail _ (.tail _ (.tail _ (.tail _ (.tail _ (.tail _ (.tail _ (.tail _ (.tail _ (.tail _ (.tail _ (.tail _ (.tail _ (.tail _ (.tail _ (.tail _ (.tail _ (.tail _ (.tail _ (.tail _ (.tail _ (.tail _ (.tail _ (.tail _ (.tail _ (.tail _ (.tail _ (.tail _ (.tail _ (.head _)))))))))))))))))))))))))))))))
        have e286 : ax.eval (.tmp 286) = _ := hF 47 (det 286 _) (by decide) (.head _)
        exact x_pick_f rfl e256 e286
      apply Build.det 288 Ext.refl (by rfl) (by rw [k.size]; rfl) rfl
      case h =>
        intro ax wx hE hR hF
        have e287 : ax.eval (.tmp 287) = _ := hF 48 (det 287 _) (by decide) (.head _)
        exact x_move rfl e287
      apply Build.detg 289 Ext.refl (by rfl) (by rw [k.size]; rfl) rfl rfl
      case h =>
        intro ax wx hE hR hF
        have e288 : ax.eval (.tmp 288) = _ := hF 49 (det 288 _) (by decide) (.head _)
        refine ⟨e288, ?_⟩
        exact x_move rfl (hE.eval 21 (by rfl) e21)
      apply Build.detg 290 Ext.refl (by rfl) (by rw [k.size]; rfl) rfl rfl
      case h =>
        intro ax wx hE hR hF
        have e289 : ax.eval (.tmp 289) = _ := hF 50 (det 289 _) (by decide) (.head _)
        have e288 : ax.eval (.tmp 288) = _ := hF 49 (det 288 _) (by decide) (.tail _ (.head _))
        refine ⟨e288, ?_⟩
        exact x_neq rfl e289 rfl
      apply Build.detg 291 Ext.refl (by rfl) (by rw [k.size]; rfl) rfl rfl
      case h =>
        intro ax wx hE hR hF
        have e290 : ax.eval (.tmp 290) = _ := hF 51 (det 290 _) (by decide) (.head _)
        have e288 : ax.eval (.tmp 288) = _ := hF 49 (det 288 _) (by decide) (.tail _ (.tail _ (.head _)))
        refine ⟨e288, ?_⟩
        exact x_move rfl e290
      refine Build.skip 292 (by rfl) (by rw [k.size]; rfl) rfl rfl ?_ ?_
      · intro ax wx hE hR hF
        have e291 : ax.eval (.tmp 291) = _ := hF 52 (det 291 _) (by decide) (.head _)
        exact e291
      refine Build.skip 293 (by rfl) (by rw [k.size]; rfl) rfl rfl ?_ ?_
      · intro ax wx hE hR hF
        have e291 : ax.eval (.tmp 291) = _ := hF 52 (det 291 _) (by decide) (.tail _ (.head _))
        exact e291
      apply Build.detg 294 Ext.refl (by rfl) (by rw [k.size]; rfl) rfl rfl
      case h =>
        intro ax wx hE hR hF
        have e291 : ax.eval (.tmp 291) = _ := hF 52 (det 291 _) (by decide) (.tail _ (.tail _ (.head _)))
        have e293 : ax.eval (.tmp 293) = _ := hF 54 (det 293 _) (by decide) (.head _)
        have e288 : ax.eval (.tmp 288) = _ := hF 49 (det 288 _) (by decide) (.tail _ (.tail _ (.tail _ (.tail _ (.tail _ (.head _))))))
        refine ⟨e288, ?_⟩
        exact x_pick_f rfl e291 rfl
      apply Build.det 295 Ext.refl (by rfl) (by rw [k.size]; rfl) rfl
      case h =>
        intro ax wx hE hR hF
        have e288 : ax.eval (.tmp 288) = _ := hF 49 (det 288 _) (by decide) (.tail _ (.tail _ (.tail _ (.tail _ (.tail _ (.tail _ (.head _)))))))
        have e294 : ax.eval (.tmp 294) = _ := hF 55 (det 294 _) (by decide) (.head _)
        exact x_pick_f rfl e288 e294
      apply Build.stop
      refine ⟨by kernel_rfl, .inl ⟨rfl, ?_⟩⟩
      intro a59 w60 hE R hF
      have e295 : a59.eval (.tmp 295) = _ := hF 56 (det 295 _) (.head _)
      clear hF
      replace O := OwnT.ext O R
      clear R
      replace e2 := hE.eval 2 (by rfl) e2
      replace e3 := hE.eval 3 (by rfl) e3
      replace e10 := hE.eval 10 (by rfl) e10
      replace e11 := hE.eval 11 (by rfl) e11
      replace e12 := hE.eval 12 (by rfl) e12
      replace e14 := hE.eval 14 (by rfl) e14
      replace e15 := hE.eval 15 (by rfl) e15
      replace k := k.env hE
      clear hE e16 e17 e20 e21 e22
      refine then_n ?_
      refine cond_f e295 rfl ?_
      refine wp_skip ?_
      refine block_n ?_
      exact hQ _ _ _ _ _ _ _ k e2 e3 e10 e11 e12 e14 e15 hF (hM.mono (by omega)) O
end Go.Proofs.Ytdpohbaeopidmaa
