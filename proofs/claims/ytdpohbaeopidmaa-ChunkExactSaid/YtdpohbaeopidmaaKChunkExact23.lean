/- chunk's law: ChunkExact's deeds, second part (printed by XChunkDo.gen.py). -/
import Derived.Test.YtdpohbaeopidmaaKChunkExact22
namespace Go.Proofs.Ytdpohbaeopidmaa
attribute [local simp] BigFrame.eval_const BigFrame.eval_global BigFrame.eval_func
set_option linter.unusedVariables false
set_option linter.unusedSimpArgs false
open Go.RowKit Go.Maps

set_option maxRecDepth 100000 in
set_option maxHeartbeats 4000000 in
theorem ck_copy {H : Nat} {A0 : World} {p mb cap bm db p2 cap2 bm2 na nb sz ub c1 c2 xb i len capA : Nat} {B B2 D1 D2 A : Option Addr} {Sa Sb : List Sec} {La Lb : Int → Option Sec} {M : Mn} {c : Int} {b : UInt8} {Q : Exit → Act → World → Prop} {t : Int} {x t2 x2 y N : Int} {m : Nat} (a : Act) (w : World) (k : Fr 479 a)
    (e2 : a.eval (.tmp 2) = .int .i64 ↑sz) (e3 : a.eval (.tmp 3) = .slice A len capA) (e10 : a.eval (.tmp 10) = .pointer (some ⟨p, 0, none⟩)) (e11 : a.eval (.tmp 11) = .pointer (some ⟨p2, 0, none⟩)) (e12 : a.eval (.tmp 12) = .pointer (some ⟨db, 0, none⟩)) (e14 : a.eval (.tmp 14) = .pointer (some ⟨ub, 0, none⟩)) (e15 : a.eval (.tmp 15) = .int .i64 ↑i) (e16 : a.eval (.tmp 16) = .pointer (some ⟨xb, 0, none⟩)) (e17 : a.eval (.tmp 17) = .bool (isK sz na nb t x)) (e18 : a.eval (.tmp 18) = .int .i64 ↑m) (e19 : a.eval (.tmp 19) = .bool (fitsB sz y m)) (e144 : a.eval (.tmp 144) = .int .i64 4)
    (O : OwnT H A0 [tDisc p mb B na cap bm Sa La, tMn mb M, tDisc p2 mb B2 nb cap2 bm2 Sb Lb, tBlk db 149 #[.pointer (some ⟨p, 0, none⟩), .pointer (some ⟨p2, 0, none⟩), .int .i64 ↑sz], tBlk ub 107 #[.slice D1 na c1, .slice D2 nb c2, .int .i64 ↑sz], tRow 9 1 (.slice D1 na c1) na (strsV (nowL Sa La)), tRow 9 1 (.slice D2 nb c2) nb (strsV (nowL Sb Lb)), tBlk xb 101 #[.int .i64 4, .int .i64 t, .int .i64 x, .int .i64 t2, .int .i64 x2, .int .i64 y, .int .i64 N, .int .u8 ↑b.toNat]] w) (hs : 0 < sz) (hz : sz ≤ 8) (hF : M.Free) (hM : M.Ok c) (hc : c ≤ 100000) (hm : m ≤ 10)
    (hQ : ∀ a w Sa' Sb' La' Lb' M', Fr 479 a → a.eval (.tmp 2) = .int .i64 ↑sz → a.eval (.tmp 3) = .slice A len capA → a.eval (.tmp 10) = .pointer (some ⟨p, 0, none⟩) → a.eval (.tmp 11) = .pointer (some ⟨p2, 0, none⟩) → a.eval (.tmp 12) = .pointer (some ⟨db, 0, none⟩) → a.eval (.tmp 14) = .pointer (some ⟨ub, 0, none⟩) → a.eval (.tmp 15) = .int .i64 ↑i → M'.Free → M'.Ok (c + 20) → OwnT H A0 [tDisc p mb B na cap bm Sa' La', tMn mb M', tDisc p2 mb B2 nb cap2 bm2 Sb' Lb', tBlk db 149 #[.pointer (some ⟨p, 0, none⟩), .pointer (some ⟨p2, 0, none⟩), .int .i64 ↑sz], tBlk ub 107 #[.slice D1 na c1, .slice D2 nb c2, .int .i64 ↑sz], tRow 9 1 (.slice D1 na c1) na (strsV (nowL Sa' La')), tRow 9 1 (.slice D2 nb c2) nb (strsV (nowL Sb' Lb')), tBlk xb 101 #[.int .i64 4, .int .i64 t, .int .i64 x, .int .i64 t2, .int .i64 x2, .int .i64 y, .int .i64 N, .int .u8 ↑b.toNat]] w → Q .normal a w) : Code.wp Try.prog (codeAt [1, 1, 1, 1, 1, 1, 1, 1, 1, 1, 0, 1, 0, 0, 1, 0, 0, 1, 1, 1, 1, 0, 1] (Try.f10.body.getD .skip)) Q a w := by
  conv => arg 2; whnf
  have hDA := (OwnT.discAt O 0 rfl).ok
  have hDB := (OwnT.discAt O 2 rfl).ok
  have hnA := hDA.le
  have hnB := hDB.le
  have hlA := hDA.len
  have hlB := hDB.len
  cases hk : isK sz na nb t x with
  | false =>
    rw [hk] at e17
    refine wp_block ?_
    refine wp_seq ?_
    refine wp_region_lit ?_
    have hE := Env.refl a [204, 203]
    apply sq_det 204 hE k rfl (by rfl) (by rfl) rfl
    case h =>
      exact x_eql rfl (hE.eval 144 (by rfl) e144) rfl
    intro a1 hE e204 kp
    apply sq_det 203 hE k rfl (by rfl) (by rfl) rfl
    case h =>
      exact x_assign rfl e204
    intro a2 hE e203 kp
    refine wpList_nil ?_
    replace e2 := hE.eval 2 (by rfl) e2
    replace e3 := hE.eval 3 (by rfl) e3
    replace e10 := hE.eval 10 (by rfl) e10
    replace e11 := hE.eval 11 (by rfl) e11
    replace e12 := hE.eval 12 (by rfl) e12
    replace e14 := hE.eval 14 (by rfl) e14
    replace e15 := hE.eval 15 (by rfl) e15
    replace e16 := hE.eval 16 (by rfl) e16
    replace e17 := hE.eval 17 (by rfl) e17
    replace e18 := hE.eval 18 (by rfl) e18
    replace e19 := hE.eval 19 (by rfl) e19
    replace e144 := hE.eval 144 (by rfl) e144
    replace k := k.env hE
    clear hE
    refine then_n ?_
    refine cond_f e203 rfl ?_
    refine wp_seq ?_
    refine wp_region_lit ?_
    have hE := Env.refl a2 [297, 296]
    apply sq_det 297 hE k rfl (by rfl) (by rfl) rfl
    case h =>
      exact x_eql rfl (hE.eval 144 (by rfl) e144) rfl
    intro a3 hE e297 kp
    apply sq_det 296 hE k rfl (by rfl) (by rfl) rfl
    case h =>
      exact x_assign rfl e297
    intro a4 hE e296 kp
    refine wpList_nil ?_
    replace e2 := hE.eval 2 (by rfl) e2
    replace e3 := hE.eval 3 (by rfl) e3
    replace e10 := hE.eval 10 (by rfl) e10
    replace e11 := hE.eval 11 (by rfl) e11
    replace e12 := hE.eval 12 (by rfl) e12
    replace e14 := hE.eval 14 (by rfl) e14
    replace e15 := hE.eval 15 (by rfl) e15
    replace e16 := hE.eval 16 (by rfl) e16
    replace e17 := hE.eval 17 (by rfl) e17
    replace e18 := hE.eval 18 (by rfl) e18
    replace e19 := hE.eval 19 (by rfl) e19
    replace e144 := hE.eval 144 (by rfl) e144
    replace k := k.env hE
    clear hE e203
    refine then_n ?_
    refine cond_t e296 rfl ?_
    refine wp_seq ?_
    refine wp_region_lit ?_
    have hE := Env.refl a4 [298, 299, 300, 301, 302, 303, 23]
    apply sq_det 298 hE k rfl (by rfl) (by rfl) rfl
    case h =>
      exact x_move rfl (hE.eval 12 (by rfl) e12)
    intro a5 hE e298 kp
    apply sq_det 299 hE k rfl (by rfl) (by rfl) rfl
    case h =>
      simp [go_sem, ↓IntWalk.iteOmega, ev (hE.eval 16 (by rfl) e16)]
      with_reducible rfl
    intro a6 hE e299 kp
    replace e298 := (kp 298 rfl).trans e298
    apply sq_det 300 hE k rfl (by rfl) (by rfl) rfl
    case h =>
      have q0 : w.cell? ⟨xb, 1, none⟩ = some (.int .i64 t) := (OwnT.blk O 7 rfl).cell 1
      have q1 : w.cell? ⟨xb, 2, none⟩ = some (.int .i64 x) := (OwnT.blk O 7 rfl).cell 2
      simp [go_sem, ↓IntWalk.iteOmega, ev e299, q0, q1]
      with_reducible rfl
    intro a7 hE e300 kp
    replace e298 := (kp 298 rfl).trans e298
    apply sq_det 301 hE k rfl (by rfl) (by rfl) rfl
    case h =>
      simp [go_sem, ↓IntWalk.iteOmega, ev (hE.eval 16 (by rfl) e16)]
      with_reducible rfl
    intro a8 hE e301 kp
    replace e298 := (kp 298 rfl).trans e298
    replace e300 := (kp 300 rfl).trans e300
    apply sq_det 302 hE k rfl (by rfl) (by rfl) rfl
    case h =>
      have q0 : w.cell? ⟨xb, 3, none⟩ = some (.int .i64 t2) := (OwnT.blk O 7 rfl).cell 3
      have q1 : w.cell? ⟨xb, 4, none⟩ = some (.int .i64 x2) := (OwnT.blk O 7 rfl).cell 4
      simp [go_sem, ↓IntWalk.iteOmega, ev e301, q0, q1]
      with_reducible rfl
    intro a9 hE e302 kp
    replace e298 := (kp 298 rfl).trans e298
    replace e300 := (kp 300 rfl).trans e300
    apply sq_call 303 hE k rfl (by rfl) (by rfl) rfl
    case h =>
      simp [go_sem, ↓IntWalk.iteOmega, ev e298, ev e300, ev e302]
      with_reducible exact ⟨rfl, rfl⟩
    case hc => exact qcopy_bad t2 x2 _ O hs (.inr hk)
    rintro e w11 ⟨rfl, R⟩
    replace O := OwnT.ext O R
    refine ⟨_, rfl, ?_⟩
    intro a10 hE e303 kp
    apply sq_det 23 hE k rfl (by rfl) (by rfl) rfl
    case h =>
      exact x_assign rfl e303
    intro a12 hE e23 kp
    refine wpList_nil ?_
    replace e2 := hE.eval 2 (by rfl) e2
    replace e3 := hE.eval 3 (by rfl) e3
    replace e10 := hE.eval 10 (by rfl) e10
    replace e11 := hE.eval 11 (by rfl) e11
    replace e12 := hE.eval 12 (by rfl) e12
    replace e14 := hE.eval 14 (by rfl) e14
    replace e15 := hE.eval 15 (by rfl) e15
    replace e16 := hE.eval 16 (by rfl) e16
    replace e17 := hE.eval 17 (by rfl) e17
    replace k := k.env hE
    clear hE e18 e19 e144 e296
    refine then_n ?_
    refine wp_seq ?_
    refine wp_region_lit ?_
    have hE := Env.refl a12 [304, 305, 306, 307, 308, 309, 310, 311, 312, 313, 314]
    apply sq_det 304 hE k rfl (by rfl) (by rfl) rfl
    case h =>
      exact x_move rfl (hE.eval 17 (by rfl) e17)
    intro a13 hE e304 kp
    apply sq_det 305 hE k rfl (by rfl) (by rfl) rfl
    case h =>
      exact x_move rfl e304
    intro a14 hE e305 kp
    refine sq_skipg 306 hE k rfl (by rfl) (by rfl) rfl rfl (.inl e305) ?_
    intro a15 hE e306 kp
    replace e305 := (kp 305 rfl).trans e305
    refine sq_skipg 307 hE k rfl (by rfl) (by rfl) rfl rfl (.inl e305) ?_
    intro a16 hE e307 kp
    replace e305 := (kp 305 rfl).trans e305
    replace e306 := (kp 306 rfl).trans e306
    refine sq_skipg 308 hE k rfl (by rfl) (by rfl) rfl rfl (.inl e305) ?_
    intro a17 hE e308 kp
    replace e305 := (kp 305 rfl).trans e305
    replace e306 := (kp 306 rfl).trans e306
    refine sq_skipg 309 hE k rfl (by rfl) (by rfl) rfl rfl (.inl e305) ?_
    intro a18 hE e309 kp
    replace e305 := (kp 305 rfl).trans e305
    replace e306 := (kp 306 rfl).trans e306
    refine sq_skipg 310 hE k rfl (by rfl) (by rfl) rfl rfl (.inl e305) ?_
    intro a19 hE e310 kp
    replace e305 := (kp 305 rfl).trans e305
    replace e306 := (kp 306 rfl).trans e306
    replace e309 := (kp 309 rfl).trans e309
    refine sq_skipg 311 hE k rfl (by rfl) (by rfl) rfl rfl (.inl e305) ?_
    intro a20 hE e311 kp
    replace e305 := (kp 305 rfl).trans e305
    replace e306 := (kp 306 rfl).trans e306
    replace e309 := (kp 309 rfl).trans e309
    refine sq_skipg 312 hE k rfl (by rfl) (by rfl) rfl rfl (.inl e305) ?_
    intro a21 hE e312 kp
    replace e305 := (kp 305 rfl).trans e305
    replace e306 := (kp 306 rfl).trans e306
    replace e309 := (kp 309 rfl).trans e309
    refine sq_skipg 313 hE k rfl (by rfl) (by rfl) rfl rfl (.inl e305) ?_
    intro a22 hE e313 kp
    replace e305 := (kp 305 rfl).trans e305
    apply sq_det 314 hE k rfl (by rfl) (by rfl) rfl
    case h =>
      exact x_pick_f rfl e305 rfl
    intro a23 hE e314 kp
    refine wpList_nil ?_
    replace e2 := hE.eval 2 (by rfl) e2
    replace e3 := hE.eval 3 (by rfl) e3
    replace e10 := hE.eval 10 (by rfl) e10
    replace e11 := hE.eval 11 (by rfl) e11
    replace e12 := hE.eval 12 (by rfl) e12
    replace e14 := hE.eval 14 (by rfl) e14
    replace e15 := hE.eval 15 (by rfl) e15
    replace e16 := hE.eval 16 (by rfl) e16
    replace e23 := hE.eval 23 (by rfl) e23
    replace k := k.env hE
    clear hE e17
    refine then_n ?_
    refine cond_f e314 rfl ?_
    refine wp_seq ?_
    refine wp_region_lit ?_
    have hE := Env.refl a23 [333, 334]
    apply sq_det 333 hE k rfl (by rfl) (by rfl) rfl
    case h =>
      exact x_move rfl (hE.eval 23 (by rfl) e23)
    intro a24 hE e333 kp
    apply sq_det 334 hE k rfl (by rfl) (by rfl) rfl
    case h =>
      exact x_neq rfl e333 rfl
    intro a25 hE e334 kp
    refine wpList_nil ?_
    replace e2 := hE.eval 2 (by rfl) e2
    replace e3 := hE.eval 3 (by rfl) e3
    replace e10 := hE.eval 10 (by rfl) e10
    replace e11 := hE.eval 11 (by rfl) e11
    replace e12 := hE.eval 12 (by rfl) e12
    replace e14 := hE.eval 14 (by rfl) e14
    replace e15 := hE.eval 15 (by rfl) e15
    replace k := k.env hE
    clear hE e16 e23 e314
    refine then_n ?_
    refine cond_f e334 rfl ?_
    refine wp_skip ?_
    refine block_n ?_
    exact hQ _ _ _ _ _ _ _ k e2 e3 e10 e11 e12 e14 e15 hF (hM.mono (by omega)) O
  | true =>
    rw [hk] at e17
    cases hk2 : isK sz na nb t2 x2 with
    | false =>
      refine wp_block ?_
      refine wp_seq ?_
      refine wp_region_lit ?_
      have hE := Env.refl a [204, 203]
      apply sq_det 204 hE k rfl (by rfl) (by rfl) rfl
      case h =>
        exact x_eql rfl (hE.eval 144 (by rfl) e144) rfl
      intro a26 hE e204 kp
      apply sq_det 203 hE k rfl (by rfl) (by rfl) rfl
      case h =>
        exact x_assign rfl e204
      intro a27 hE e203 kp
      refine wpList_nil ?_
      replace e2 := hE.eval 2 (by rfl) e2
      replace e3 := hE.eval 3 (by rfl) e3
      replace e10 := hE.eval 10 (by rfl) e10
      replace e11 := hE.eval 11 (by rfl) e11
      replace e12 := hE.eval 12 (by rfl) e12
      replace e14 := hE.eval 14 (by rfl) e14
      replace e15 := hE.eval 15 (by rfl) e15
      replace e16 := hE.eval 16 (by rfl) e16
      replace e17 := hE.eval 17 (by rfl) e17
      replace e18 := hE.eval 18 (by rfl) e18
      replace e19 := hE.eval 19 (by rfl) e19
      replace e144 := hE.eval 144 (by rfl) e144
      replace k := k.env hE
      clear hE
      refine then_n ?_
      refine cond_f e203 rfl ?_
      refine wp_seq ?_
      refine wp_region_lit ?_
      have hE := Env.refl a27 [297, 296]
      apply sq_det 297 hE k rfl (by rfl) (by rfl) rfl
      case h =>
        exact x_eql rfl (hE.eval 144 (by rfl) e144) rfl
      intro a28 hE e297 kp
      apply sq_det 296 hE k rfl (by rfl) (by rfl) rfl
      case h =>
        exact x_assign rfl e297
      intro a29 hE e296 kp
      refine wpList_nil ?_
      replace e2 := hE.eval 2 (by rfl) e2
      replace e3 := hE.eval 3 (by rfl) e3
      replace e10 := hE.eval 10 (by rfl) e10
      replace e11 := hE.eval 11 (by rfl) e11
      replace e12 := hE.eval 12 (by rfl) e12
      replace e14 := hE.eval 14 (by rfl) e14
      replace e15 := hE.eval 15 (by rfl) e15
      replace e16 := hE.eval 16 (by rfl) e16
      replace e17 := hE.eval 17 (by rfl) e17
      replace e18 := hE.eval 18 (by rfl) e18
      replace e19 := hE.eval 19 (by rfl) e19
      replace e144 := hE.eval 144 (by rfl) e144
      replace k := k.env hE
      clear hE e203
      refine then_n ?_
      refine cond_t e296 rfl ?_
      refine wp_seq ?_
      refine wp_region_lit ?_
      have hE := Env.refl a29 [298, 299, 300, 301, 302, 303, 23]
      apply sq_det 298 hE k rfl (by rfl) (by rfl) rfl
      case h =>
        exact x_move rfl (hE.eval 12 (by rfl) e12)
      intro a30 hE e298 kp
      apply sq_det 299 hE k rfl (by rfl) (by rfl) rfl
      case h =>
        simp [go_sem, ↓IntWalk.iteOmega, ev (hE.eval 16 (by rfl) e16)]
        with_reducible rfl
      intro a31 hE e299 kp
      replace e298 := (kp 298 rfl).trans e298
      apply sq_det 300 hE k rfl (by rfl) (by rfl) rfl
      case h =>
        have q0 : w.cell? ⟨xb, 1, none⟩ = some (.int .i64 t) := (OwnT.blk O 7 rfl).cell 1
        have q1 : w.cell? ⟨xb, 2, none⟩ = some (.int .i64 x) := (OwnT.blk O 7 rfl).cell 2
        simp [go_sem, ↓IntWalk.iteOmega, ev e299, q0, q1]
        with_reducible rfl
      intro a32 hE e300 kp
      replace e298 := (kp 298 rfl).trans e298
      apply sq_det 301 hE k rfl (by rfl) (by rfl) rfl
      case h =>
        simp [go_sem, ↓IntWalk.iteOmega, ev (hE.eval 16 (by rfl) e16)]
        with_reducible rfl
      intro a33 hE e301 kp
      replace e298 := (kp 298 rfl).trans e298
      replace e300 := (kp 300 rfl).trans e300
      apply sq_det 302 hE k rfl (by rfl) (by rfl) rfl
      case h =>
        have q0 : w.cell? ⟨xb, 3, none⟩ = some (.int .i64 t2) := (OwnT.blk O 7 rfl).cell 3
        have q1 : w.cell? ⟨xb, 4, none⟩ = some (.int .i64 x2) := (OwnT.blk O 7 rfl).cell 4
        simp [go_sem, ↓IntWalk.iteOmega, ev e301, q0, q1]
        with_reducible rfl
      intro a34 hE e302 kp
      replace e298 := (kp 298 rfl).trans e298
      replace e300 := (kp 300 rfl).trans e300
      apply sq_call 303 hE k rfl (by rfl) (by rfl) rfl
      case h =>
        simp [go_sem, ↓IntWalk.iteOmega, ev e298, ev e300, ev e302]
        with_reducible exact ⟨rfl, rfl⟩
      case hc => exact qcopy_bad t2 x2 _ O hs (.inl hk2)
      rintro e w36 ⟨rfl, R⟩
      replace O := OwnT.ext O R
      refine ⟨_, rfl, ?_⟩
      intro a35 hE e303 kp
      apply sq_det 23 hE k rfl (by rfl) (by rfl) rfl
      case h =>
        exact x_assign rfl e303
      intro a37 hE e23 kp
      refine wpList_nil ?_
      replace e2 := hE.eval 2 (by rfl) e2
      replace e3 := hE.eval 3 (by rfl) e3
      replace e10 := hE.eval 10 (by rfl) e10
      replace e11 := hE.eval 11 (by rfl) e11
      replace e12 := hE.eval 12 (by rfl) e12
      replace e14 := hE.eval 14 (by rfl) e14
      replace e15 := hE.eval 15 (by rfl) e15
      replace e16 := hE.eval 16 (by rfl) e16
      replace e17 := hE.eval 17 (by rfl) e17
      replace k := k.env hE
      clear hE e18 e19 e144 e296
      refine then_n ?_
      refine wp_seq ?_
      refine wp_region_lit ?_
      have hE := Env.refl a37 [304, 305, 306, 307, 308, 309, 310, 311, 312, 313, 314]
      apply sq_det 304 hE k rfl (by rfl) (by rfl) rfl
      case h =>
        exact x_move rfl (hE.eval 17 (by rfl) e17)
      intro a38 hE e304 kp
      apply sq_det 305 hE k rfl (by rfl) (by rfl) rfl
      case h =>
        exact x_move rfl e304
      intro a39 hE e305 kp
      apply sq_detg 306 hE k rfl (by rfl) (by rfl) rfl rfl e305
      case h =>
        exact x_move rfl (hE.eval 14 (by rfl) e14)
      intro a40 hE e306 kp
      replace e305 := (kp 305 rfl).trans e305
      apply sq_detg 307 hE k rfl (by rfl) (by rfl) rfl rfl e305
      case h =>
        simp [go_sem, ↓IntWalk.iteOmega, ev (hE.eval 16 (by rfl) e16)]
        with_reducible rfl
      intro a41 hE e307 kp
      replace e305 := (kp 305 rfl).trans e305
      replace e306 := (kp 306 rfl).trans e306
      apply sq_detg 308 hE k rfl (by rfl) (by rfl) rfl rfl e305
      case h =>
        simp [go_sem, ↓IntWalk.iteOmega, ev e307]
        with_reducible rfl
      intro a42 hE e308 kp
      replace e305 := (kp 305 rfl).trans e305
      replace e306 := (kp 306 rfl).trans e306
      apply sq_detg 309 hE k rfl (by rfl) (by rfl) rfl rfl e305
      case h =>
        have q0 : w36.cell? ⟨xb, 3, none⟩ = some (.int .i64 t2) := (OwnT.blk O 7 rfl).cell 3
        simp [go_sem, ↓IntWalk.iteOmega, ev e308, q0]
        with_reducible rfl
      intro a43 hE e309 kp
      replace e305 := (kp 305 rfl).trans e305
      replace e306 := (kp 306 rfl).trans e306
      apply sq_detg 310 hE k rfl (by rfl) (by rfl) rfl rfl e305
      case h =>
        simp [go_sem, ↓IntWalk.iteOmega, ev (hE.eval 16 (by rfl) e16)]
        with_reducible rfl
      intro a44 hE e310 kp
      replace e305 := (kp 305 rfl).trans e305
      replace e306 := (kp 306 rfl).trans e306
      replace e309 := (kp 309 rfl).trans e309
      apply sq_detg 311 hE k rfl (by rfl) (by rfl) rfl rfl e305
      case h =>
        simp [go_sem, ↓IntWalk.iteOmega, ev e310]
        with_reducible rfl
      intro a45 hE e311 kp
      replace e305 := (kp 305 rfl).trans e305
      replace e306 := (kp 306 rfl).trans e306
      replace e309 := (kp 309 rfl).trans e309
      apply sq_detg 312 hE k rfl (by rfl) (by rfl) rfl rfl e305
      case h =>
        have q0 : w36.cell? ⟨xb, 4, none⟩ = some (.int .i64 x2) := (OwnT.blk O 7 rfl).cell 4
        simp [go_sem, ↓IntWalk.iteOmega, ev e311, q0]
        with_reducible rfl
      intro a46 hE e312 kp
      replace e305 := (kp 305 rfl).trans e305
      replace e306 := (kp 306 rfl).trans e306
      replace e309 := (kp 309 rfl).trans e309
      apply sq_callg 313 hE k rfl (by rfl) (by rfl) rfl rfl e305
      case h =>
        simp [go_sem, ↓IntWalk.iteOmega, ev e306, ev e309, ev e312]
        with_reducible exact ⟨rfl, rfl⟩
      case hc => exact ris18_any t2 x2 _ (OwnT.blk O 4 rfl) hs (by omega) (by omega)
      rintro e w48 ⟨rfl, R⟩
      replace O := OwnT.ext O R
      refine ⟨_, congrArg (fun b => Ending.returned (.bool b)) hk2, ?_⟩
      intro a47 hE e313 kp
      replace e305 := (kp 305 rfl).trans e305
      apply sq_det 314 hE k rfl (by rfl) (by rfl) rfl
      case h =>
        exact x_pick_t rfl e305 e313
      intro a49 hE e314 kp
      refine wpList_nil ?_
      replace e2 := hE.eval 2 (by rfl) e2
      replace e3 := hE.eval 3 (by rfl) e3
      replace e10 := hE.eval 10 (by rfl) e10
      replace e11 := hE.eval 11 (by rfl) e11
      replace e12 := hE.eval 12 (by rfl) e12
      replace e14 := hE.eval 14 (by rfl) e14
      replace e15 := hE.eval 15 (by rfl) e15
      replace e16 := hE.eval 16 (by rfl) e16
      replace e23 := hE.eval 23 (by rfl) e23
      replace k := k.env hE
      clear hE e17
      refine then_n ?_
      refine cond_f e314 rfl ?_
      refine wp_seq ?_
      refine wp_region_lit ?_
      have hE := Env.refl a49 [333, 334]
      apply sq_det 333 hE k rfl (by rfl) (by rfl) rfl
      case h =>
        exact x_move rfl (hE.eval 23 (by rfl) e23)
      intro a50 hE e333 kp
      apply sq_det 334 hE k rfl (by rfl) (by rfl) rfl
      case h =>
        exact x_neq rfl e333 rfl
      intro a51 hE e334 kp
      refine wpList_nil ?_
      replace e2 := hE.eval 2 (by rfl) e2
      replace e3 := hE.eval 3 (by rfl) e3
      replace e10 := hE.eval 10 (by rfl) e10
      replace e11 := hE.eval 11 (by rfl) e11
      replace e12 := hE.eval 12 (by rfl) e12
      replace e14 := hE.eval 14 (by rfl) e14
      replace e15 := hE.eval 15 (by rfl) e15
      replace k := k.env hE
      clear hE e16 e23 e314
      refine then_n ?_
      refine cond_f e334 rfl ?_
      refine wp_skip ?_
      refine block_n ?_
      exact hQ _ _ _ _ _ _ _ k e2 e3 e10 e11 e12 e14 e15 hF (hM.mono (by omega)) O
    | true =>
      obtain ⟨G, hG⟩ : ∃ G, kG sz Sa La Sb Lb t x = G := ⟨_, rfl⟩
      have hGl : G.length = 16 * sz := by rw [← hG]; exact kG_len _ O hs hk
      have hgt : ∀ W La' Lb' M', OwnT H A0 [tBlk ub 107 #[.slice D1 na c1, .slice D2 nb c2, .int .i64 ↑sz], tRow 9 1 (.slice D1 na c1) na (strsV (nowL Sa La)), tRow 9 1 (.slice D2 nb c2) nb (strsV (nowL Sb Lb)), tDisc p mb B na cap bm Sa La', tMn mb M', tDisc p2 mb B2 nb cap2 bm2 Sb Lb', tBlk db 149 #[.pointer (some ⟨p, 0, none⟩), .pointer (some ⟨p2, 0, none⟩), .int .i64 ↑sz], tBlk xb 101 #[.int .i64 4, .int .i64 t, .int .i64 x, .int .i64 t2, .int .i64 x2, .int .i64 y, .int .i64 N, .int .u8 ↑b.toNat]] W → Calls Try.prog 61 #[.pointer (some ⟨ub, 0, none⟩), .int .i64 t, .int .i64 x] W fun e w' => e = .returned (.string (sB G)) ∧ Ext W w' := by
        intro W La' Lb' M' O; rw [← hG]; exact uget W O hs hz hDA hDB hk
      refine wp_block ?_
      refine wp_seq ?_
      refine wp_region_lit ?_
      have hE := Env.refl a [204, 203]
      apply sq_det 204 hE k rfl (by rfl) (by rfl) rfl
      case h =>
        exact x_eql rfl (hE.eval 144 (by rfl) e144) rfl
      intro a52 hE e204 kp
      apply sq_det 203 hE k rfl (by rfl) (by rfl) rfl
      case h =>
        exact x_assign rfl e204
      intro a53 hE e203 kp
      refine wpList_nil ?_
      replace e2 := hE.eval 2 (by rfl) e2
      replace e3 := hE.eval 3 (by rfl) e3
      replace e10 := hE.eval 10 (by rfl) e10
      replace e11 := hE.eval 11 (by rfl) e11
      replace e12 := hE.eval 12 (by rfl) e12
      replace e14 := hE.eval 14 (by rfl) e14
      replace e15 := hE.eval 15 (by rfl) e15
      replace e16 := hE.eval 16 (by rfl) e16
      replace e17 := hE.eval 17 (by rfl) e17
      replace e18 := hE.eval 18 (by rfl) e18
      replace e19 := hE.eval 19 (by rfl) e19
      replace e144 := hE.eval 144 (by rfl) e144
      replace k := k.env hE
      clear hE
      refine then_n ?_
      refine cond_f e203 rfl ?_
      refine wp_seq ?_
      refine wp_region_lit ?_
      have hE := Env.refl a53 [297, 296]
      apply sq_det 297 hE k rfl (by rfl) (by rfl) rfl
      case h =>
        exact x_eql rfl (hE.eval 144 (by rfl) e144) rfl
      intro a54 hE e297 kp
      apply sq_det 296 hE k rfl (by rfl) (by rfl) rfl
      case h =>
        exact x_assign rfl e297
      intro a55 hE e296 kp
      refine wpList_nil ?_
      replace e2 := hE.eval 2 (by rfl) e2
      replace e3 := hE.eval 3 (by rfl) e3
      replace e10 := hE.eval 10 (by rfl) e10
      replace e11 := hE.eval 11 (by rfl) e11
      replace e12 := hE.eval 12 (by rfl) e12
      replace e14 := hE.eval 14 (by rfl) e14
      replace e15 := hE.eval 15 (by rfl) e15
      replace e16 := hE.eval 16 (by rfl) e16
      replace e17 := hE.eval 17 (by rfl) e17
      replace e18 := hE.eval 18 (by rfl) e18
      replace e19 := hE.eval 19 (by rfl) e19
      replace e144 := hE.eval 144 (by rfl) e144
      replace k := k.env hE
      clear hE e203
      refine then_n ?_
      refine cond_t e296 rfl ?_
      refine wp_seq ?_
      refine wp_region_lit ?_
      have hE := Env.refl a55 [298, 299, 300, 301, 302, 303, 23]
      apply sq_det 298 hE k rfl (by rfl) (by rfl) rfl
      case h =>
        exact x_move rfl (hE.eval 12 (by rfl) e12)
      intro a56 hE e298 kp
      apply sq_det 299 hE k rfl (by rfl) (by rfl) rfl
      case h =>
        simp [go_sem, ↓IntWalk.iteOmega, ev (hE.eval 16 (by rfl) e16)]
        with_reducible rfl
      intro a57 hE e299 kp
      replace e298 := (kp 298 rfl).trans e298
      apply sq_det 300 hE k rfl (by rfl) (by rfl) rfl
      case h =>
        have q0 : w.cell? ⟨xb, 1, none⟩ = some (.int .i64 t) := (OwnT.blk O 7 rfl).cell 1
        have q1 : w.cell? ⟨xb, 2, none⟩ = some (.int .i64 x) := (OwnT.blk O 7 rfl).cell 2
        simp [go_sem, ↓IntWalk.iteOmega, ev e299, q0, q1]
        with_reducible rfl
      intro a58 hE e300 kp
      replace e298 := (kp 298 rfl).trans e298
      apply sq_det 301 hE k rfl (by rfl) (by rfl) rfl
      case h =>
        simp [go_sem, ↓IntWalk.iteOmega, ev (hE.eval 16 (by rfl) e16)]
        with_reducible rfl
      intro a59 hE e301 kp
      replace e298 := (kp 298 rfl).trans e298
      replace e300 := (kp 300 rfl).trans e300
      apply sq_det 302 hE k rfl (by rfl) (by rfl) rfl
      case h =>
        have q0 : w.cell? ⟨xb, 3, none⟩ = some (.int .i64 t2) := (OwnT.blk O 7 rfl).cell 3
        have q1 : w.cell? ⟨xb, 4, none⟩ = some (.int .i64 x2) := (OwnT.blk O 7 rfl).cell 4
        simp [go_sem, ↓IntWalk.iteOmega, ev e301, q0, q1]
        with_reducible rfl
      intro a60 hE e302 kp
      replace e298 := (kp 298 rfl).trans e298
      replace e300 := (kp 300 rfl).trans e300
      apply sq_call 303 hE k rfl (by rfl) (by rfl) rfl
      case h =>
        simp [go_sem, ↓IntWalk.iteOmega, ev e298, ev e300, ev e302]
        with_reducible exact ⟨rfl, rfl⟩
      case hc => exact qcopy_ok t2 x2 _ O hs hz hk2 hk hM (by omega) hF
      clear O
      rintro e w62 ⟨r, rfl, rfl, La', Lb', M', hF', hM', hkd, O⟩
      rw [hG] at hkd
      refine ⟨_, rfl, ?_⟩
      intro a61 hE e303 kp
      apply sq_det 23 hE k rfl (by rfl) (by rfl) rfl
      case h =>
        exact x_assign rfl e303
      intro a63 hE e23 kp
      refine wpList_nil ?_
      replace e2 := hE.eval 2 (by rfl) e2
      replace e3 := hE.eval 3 (by rfl) e3
      replace e10 := hE.eval 10 (by rfl) e10
      replace e11 := hE.eval 11 (by rfl) e11
      replace e12 := hE.eval 12 (by rfl) e12
      replace e14 := hE.eval 14 (by rfl) e14
      replace e15 := hE.eval 15 (by rfl) e15
      replace e16 := hE.eval 16 (by rfl) e16
      replace e17 := hE.eval 17 (by rfl) e17
      replace k := k.env hE
      clear hE e18 e19 e144 e296
      refine then_n ?_
      refine wp_seq ?_
      refine wp_region_lit ?_
      have hE := Env.refl a63 [304, 305, 306, 307, 308, 309, 310, 311, 312, 313, 314]
      apply sq_det 304 hE k rfl (by rfl) (by rfl) rfl
      case h =>
        exact x_move rfl (hE.eval 17 (by rfl) e17)
      intro a64 hE e304 kp
      apply sq_det 305 hE k rfl (by rfl) (by rfl) rfl
      case h =>
        exact x_move rfl e304
      intro a65 hE e305 kp
      apply sq_detg 306 hE k rfl (by rfl) (by rfl) rfl rfl e305
      case h =>
        exact x_move rfl (hE.eval 14 (by rfl) e14)
      intro a66 hE e306 kp
      replace e305 := (kp 305 rfl).trans e305
      apply sq_detg 307 hE k rfl (by rfl) (by rfl) rfl rfl e305
      case h =>
        simp [go_sem, ↓IntWalk.iteOmega, ev (hE.eval 16 (by rfl) e16)]
        with_reducible rfl
      intro a67 hE e307 kp
      replace e305 := (kp 305 rfl).trans e305
      replace e306 := (kp 306 rfl).trans e306
      apply sq_detg 308 hE k rfl (by rfl) (by rfl) rfl rfl e305
      case h =>
        simp [go_sem, ↓IntWalk.iteOmega, ev e307]
        with_reducible rfl
      intro a68 hE e308 kp
      replace e305 := (kp 305 rfl).trans e305
      replace e306 := (kp 306 rfl).trans e306
      apply sq_detg 309 hE k rfl (by rfl) (by rfl) rfl rfl e305
      case h =>
        have q0 : w62.cell? ⟨xb, 3, none⟩ = some (.int .i64 t2) := (OwnT.blk O 7 rfl).cell 3
        simp [go_sem, ↓IntWalk.iteOmega, ev e308, q0]
        with_reducible rfl
      intro a69 hE e309 kp
      replace e305 := (kp 305 rfl).trans e305
      replace e306 := (kp 306 rfl).trans e306
      apply sq_detg 310 hE k rfl (by rfl) (by rfl) rfl rfl e305
      case h =>
        simp [go_sem, ↓IntWalk.iteOmega, ev (hE.eval 16 (by rfl) e16)]
        with_reducible rfl
      intro a70 hE e310 kp
      replace e305 := (kp 305 rfl).trans e305
      replace e306 := (kp 306 rfl).trans e306
      replace e309 := (kp 309 rfl).trans e309
      apply sq_detg 311 hE k rfl (by rfl) (by rfl) rfl rfl e305
      case h =>
        simp [go_sem, ↓IntWalk.iteOmega, ev e310]
        with_reducible rfl
      intro a71 hE e311 kp
      replace e305 := (kp 305 rfl).trans e305
      replace e306 := (kp 306 rfl).trans e306
      replace e309 := (kp 309 rfl).trans e309
      apply sq_detg 312 hE k rfl (by rfl) (by rfl) rfl rfl e305
      case h =>
        have q0 : w62.cell? ⟨xb, 4, none⟩ = some (.int .i64 x2) := (OwnT.blk O 7 rfl).cell 4
        simp [go_sem, ↓IntWalk.iteOmega, ev e311, q0]
        with_reducible rfl
      intro a72 hE e312 kp
      replace e305 := (kp 305 rfl).trans e305
      replace e306 := (kp 306 rfl).trans e306
      replace e309 := (kp 309 rfl).trans e309
      apply sq_callg 313 hE k rfl (by rfl) (by rfl) rfl rfl e305
      case h =>
        simp [go_sem, ↓IntWalk.iteOmega, ev e306, ev e309, ev e312]
        with_reducible exact ⟨rfl, rfl⟩
      case hc => exact ris18_any t2 x2 _ (OwnT.blk O 4 rfl) hs (by omega) (by omega)
      rintro e w74 ⟨rfl, R⟩
      replace O := OwnT.ext O R
      refine ⟨_, congrArg (fun b => Ending.returned (.bool b)) hk2, ?_⟩
      intro a73 hE e313 kp
      replace e305 := (kp 305 rfl).trans e305
      apply sq_det 314 hE k rfl (by rfl) (by rfl) rfl
      case h =>
        exact x_pick_t rfl e305 e313
      intro a75 hE e314 kp
      refine wpList_nil ?_
      replace e2 := hE.eval 2 (by rfl) e2
      replace e3 := hE.eval 3 (by rfl) e3
      replace e10 := hE.eval 10 (by rfl) e10
      replace e11 := hE.eval 11 (by rfl) e11
      replace e12 := hE.eval 12 (by rfl) e12
      replace e14 := hE.eval 14 (by rfl) e14
      replace e15 := hE.eval 15 (by rfl) e15
      replace e16 := hE.eval 16 (by rfl) e16
      replace e23 := hE.eval 23 (by rfl) e23
      replace k := k.env hE
      clear hE e17
      refine then_n ?_
      refine cond_t e314 rfl ?_
      refine wp_seq ?_
      refine wp_seq ?_
      refine wp_region_lit ?_
      have hE := Env.refl a75 [315, 316]
      apply sq_det 315 hE k rfl (by rfl) (by rfl) rfl
      case h =>
        exact x_move rfl (hE.eval 23 (by rfl) e23)
      intro a76 hE e315 kp
      apply sq_det 316 hE k rfl (by rfl) (by rfl) rfl
      case h =>
        exact x_neq rfl e315 rfl
      intro a77 hE e316 kp
      refine wpList_nil ?_
      replace e2 := hE.eval 2 (by rfl) e2
      replace e3 := hE.eval 3 (by rfl) e3
      replace e10 := hE.eval 10 (by rfl) e10
      replace e11 := hE.eval 11 (by rfl) e11
      replace e12 := hE.eval 12 (by rfl) e12
      replace e14 := hE.eval 14 (by rfl) e14
      replace e15 := hE.eval 15 (by rfl) e15
      replace e16 := hE.eval 16 (by rfl) e16
      replace k := k.env hE
      clear hE e23 e314
      refine then_n ?_
      refine cond_f e316 rfl ?_
      refine wp_skip ?_
      refine then_n ?_
      replace O : OwnT _ _ ([tBlk ub 107 #[.slice D1 na c1, .slice D2 nb c2, .int .i64 ↑sz], tRow 9 1 (.slice D1 na c1) na (strsV (nowL Sa La)), tRow 9 1 (.slice D2 nb c2) nb (strsV (nowL Sb Lb)), tDisc p mb B na cap bm Sa La', tMn mb M', tDisc p2 mb B2 nb cap2 bm2 Sb Lb', tBlk db 149 #[.pointer (some ⟨p, 0, none⟩), .pointer (some ⟨p2, 0, none⟩), .int .i64 ↑sz], tBlk xb 101 #[.int .i64 4, .int .i64 t, .int .i64 x, .int .i64 t2, .int .i64 x2, .int .i64 y, .int .i64 N, .int .u8 ↑b.toNat]]) w74 := OwnT.pick O [4, 5, 6, 0, 1, 2, 3, 7] (by decide)
      refine wp_tail (w0 := w74) [[], [], [1], [1, 2], [], [4], [4, 5], [], [], [8], [8, 9], [], [11], [11, 12], [7, 8, 9, 10, 11, 12, 13], [0, 1, 2, 3, 4, 5, 6, 7, 8, 9, 10, 11, 12, 13, 14]] [317, 318, 319, 320, 321, 322, 323, 324, 325, 326, 327, 328, 329, 330, 331] (by kernel_rfl) ?_
      apply BuildL.det 317 (fun _ w_ => Ext.refl w_) (fun _ _ h => h) (by rfl) (by rw [k.size]; rfl) rfl
      case h =>
        intro lx ax wx hE hR hF
        exact x_move rfl (hE.eval 14 (by rfl) e14)
      apply BuildL.det 318 (fun _ w_ => Ext.refl w_) (fun _ _ h => h) (by rfl) (by rw [k.size]; rfl) rfl
      case h =>
        intro lx ax wx hE hR hF
        simp [go_sem, ↓IntWalk.iteOmega, ev (hE.eval 16 (by rfl) e16)]
        with_reducible rfl
      apply BuildL.det 319 (fun _ w_ => Ext.refl w_) (fun _ _ h => h) (by rfl) (by rw [k.size]; rfl) rfl
      case h =>
        intro lx ax wx hE hR hF
        have e318 : ax.eval (.tmp 318) = _ := hF 1 (detL 1 318 _) (by decide) (.head _)
        simp [go_sem, ↓IntWalk.iteOmega, ev e318]
        with_reducible rfl
      apply BuildL.det 320 (fun _ w_ => Ext.refl w_) (fun _ _ h => h) (by rfl) (by rw [k.size]; rfl) rfl
      case h =>
        intro lx ax wx hE hR hF
        have e319 : ax.eval (.tmp 319) = _ := hF 2 (detL 2 319 _) (by decide) (.head _)
        have q0 : wx.cell? ⟨xb, 3, none⟩ = some (.int .i64 t2) := (OwnT.blk (OwnT.ext O hR) 7 rfl).cell 3
        simp [go_sem, ↓IntWalk.iteOmega, ev e319, q0]
        with_reducible rfl
      apply BuildL.det 321 (fun _ w_ => Ext.refl w_) (fun _ _ h => h) (by rfl) (by rw [k.size]; rfl) rfl
      case h =>
        intro lx ax wx hE hR hF
        simp [go_sem, ↓IntWalk.iteOmega, ev (hE.eval 16 (by rfl) e16)]
        with_reducible rfl
      apply BuildL.det 322 (fun _ w_ => Ext.refl w_) (fun _ _ h => h) (by rfl) (by rw [k.size]; rfl) rfl
      case h =>
        intro lx ax wx hE hR hF
        have e321 : ax.eval (.tmp 321) = _ := hF 4 (detL 4 321 _) (by decide) (.head _)
        simp [go_sem, ↓IntWalk.iteOmega, ev e321]
        with_reducible rfl
      apply BuildL.det 323 (fun _ w_ => Ext.refl w_) (fun _ _ h => h) (by rfl) (by rw [k.size]; rfl) rfl
      case h =>
        intro lx ax wx hE hR hF
        have e322 : ax.eval (.tmp 322) = _ := hF 5 (detL 5 322 _) (by decide) (.head _)
        have q0 : wx.cell? ⟨xb, 4, none⟩ = some (.int .i64 x2) := (OwnT.blk (OwnT.ext O hR) 7 rfl).cell 4
        simp [go_sem, ↓IntWalk.iteOmega, ev e322, q0]
        with_reducible rfl
      apply BuildL.det 324 (fun _ w_ => Ext.refl w_) (fun _ _ h => h) (by rfl) (by rw [k.size]; rfl) rfl
      case h =>
        intro lx ax wx hE hR hF
        exact x_move rfl (hE.eval 14 (by rfl) e14)
      apply BuildL.det 325 (fun _ w_ => Ext.refl w_) (fun _ _ h => h) (by rfl) (by rw [k.size]; rfl) rfl
      case h =>
        intro lx ax wx hE hR hF
        simp [go_sem, ↓IntWalk.iteOmega, ev (hE.eval 16 (by rfl) e16)]
        with_reducible rfl
      apply BuildL.det 326 (fun _ w_ => Ext.refl w_) (fun _ _ h => h) (by rfl) (by rw [k.size]; rfl) rfl
      case h =>
        intro lx ax wx hE hR hF
        have e325 : ax.eval (.tmp 325) = _ := hF 8 (detL 8 325 _) (by decide) (.head _)
        simp [go_sem, ↓IntWalk.iteOmega, ev e325]
        with_reducible rfl
      apply BuildL.det 327 (fun _ w_ => Ext.refl w_) (fun _ _ h => h) (by rfl) (by rw [k.size]; rfl) rfl
      case h =>
        intro lx ax wx hE hR hF
        have e326 : ax.eval (.tmp 326) = _ := hF 9 (detL 9 326 _) (by decide) (.head _)
        have q0 : wx.cell? ⟨xb, 1, none⟩ = some (.int .i64 t) := (OwnT.blk (OwnT.ext O hR) 7 rfl).cell 1
        simp [go_sem, ↓IntWalk.iteOmega, ev e326, q0]
        with_reducible rfl
      apply BuildL.det 328 (fun _ w_ => Ext.refl w_) (fun _ _ h => h) (by rfl) (by rw [k.size]; rfl) rfl
      case h =>
        intro lx ax wx hE hR hF
        simp [go_sem, ↓IntWalk.iteOmega, ev (hE.eval 16 (by rfl) e16)]
        with_reducible rfl
      apply BuildL.det 329 (fun _ w_ => Ext.refl w_) (fun _ _ h => h) (by rfl) (by rw [k.size]; rfl) rfl
      case h =>
        intro lx ax wx hE hR hF
        have e328 : ax.eval (.tmp 328) = _ := hF 11 (detL 11 328 _) (by decide) (.head _)
        simp [go_sem, ↓IntWalk.iteOmega, ev e328]
        with_reducible rfl
      apply BuildL.det 330 (fun _ w_ => Ext.refl w_) (fun _ _ h => h) (by rfl) (by rw [k.size]; rfl) rfl
      case h =>
        intro lx ax wx hE hR hF
        have e329 : ax.eval (.tmp 329) = _ := hF 12 (detL 12 329 _) (by decide) (.head _)
        have q0 : wx.cell? ⟨xb, 2, none⟩ = some (.int .i64 x) := (OwnT.blk (OwnT.ext O hR) 7 rfl).cell 2
        simp [go_sem, ↓IntWalk.iteOmega, ev e329, q0]
        with_reducible rfl
      apply BuildL.call 331 (by rfl) (by rw [k.size]; rfl) rfl
      case h =>
        intro lx ax wx hE hR hF
        have e324 : ax.eval (.tmp 324) = _ := hF 7 (detL 7 324 _) (by decide) (.tail _ (.tail _ (.tail _ (.tail _ (.tail _ (.tail _ (.head _)))))))
        have e327 : ax.eval (.tmp 327) = _ := hF 10 (detL 10 327 _) (by decide) (.tail _ (.tail _ (.tail _ (.head _))))
        have e330 : ax.eval (.tmp 330) = _ := hF 13 (detL 13 330 _) (by decide) (.head _)
        simp [go_sem, ↓IntWalk.iteOmega, ev e324, ev e327, ev e330]
        with_reducible exact ⟨rfl, rfl⟩
      case hc => intro lx wx hR _ _; exact (hgt wx _ _ _ (OwnT.ext O hR)).mono (fun e w' h => ⟨h.1, h.2, Ext.trans hR h.2⟩)
      apply BuildL.stop
      refine ⟨by kernel_rfl, ?_⟩
      intro lx a78 w79 hE R hL hF
      have e317 : a78.eval (.tmp 317) = _ := hF 0 (detL 0 317 _) (.tail _ (.tail _ (.tail _ (.tail _ (.tail _ (.tail _ (.tail _ (.tail _ (.tail _ (.tail _ (.tail _ (.tail _ (.tail _ (.tail _ (.head _)))))))))))))))
      have e320 : a78.eval (.tmp 320) = _ := hF 3 (detL 3 320 _) (.tail _ (.tail _ (.tail _ (.tail _ (.tail _ (.tail _ (.tail _ (.tail _ (.tail _ (.tail _ (.tail _ (.head _))))))))))))
      have e323 : a78.eval (.tmp 323) = _ := hF 6 (detL 6 323 _) (.tail _ (.tail _ (.tail _ (.tail _ (.tail _ (.tail _ (.tail _ (.tail _ (.head _)))))))))
      have e331 : a78.eval (.tmp 331) = _ := hF 14 (detL 14 331 _) (.head _)
      clear hF hL
      replace O := OwnT.ext O R
      clear R
      simp only [List.length_cons, List.length_nil, Nat.zero_add, Nat.reduceAdd, List.drop_succ_cons, List.drop_zero, List.drop_nil, tailOps]
      apply tail_call 332 [317, 318, 319, 320, 321, 322, 323, 324, 325, 326, 327, 328, 329, 330, 331, 332] hE k rfl (by rfl) (by rfl) (by rfl)
      case h =>
        simp [go_sem, ↓IntWalk.iteOmega, ev e317, ev e320, ev e323, ev e331]
        with_reducible exact ⟨rfl, rfl⟩
      case hc => exact uput 0 sz G _ O hs hlA hlB hnA hnB hk2 hkd hGl (by omega)
      clear O
      rintro e w80 ⟨rfl, O⟩
      refine ⟨_, rfl, ?_⟩
      intro a81 hE e332 kp
      replace e2 := hE.eval 2 (by rfl) e2
      replace e3 := hE.eval 3 (by rfl) e3
      replace e10 := hE.eval 10 (by rfl) e10
      replace e11 := hE.eval 11 (by rfl) e11
      replace e12 := hE.eval 12 (by rfl) e12
      replace e14 := hE.eval 14 (by rfl) e14
      replace e15 := hE.eval 15 (by rfl) e15
      replace k := k.env hE
      clear hE e16 e316 e332
      refine block_n ?_
      replace O := OwnT.pick O [3, 4, 5, 6, 0, 1, 2, 7] (by decide)
      exact hQ _ _ _ _ _ _ _ k e2 e3 e10 e11 e12 e14 e15 hF' (hM'.mono (by omega)) O
set_option maxRecDepth 100000 in
set_option maxHeartbeats 4000000 in
theorem ck_zero {H : Nat} {A0 : World} {p mb cap bm db p2 cap2 bm2 na nb sz ub c1 c2 xb i len capA : Nat} {B B2 D1 D2 A : Option Addr} {Sa Sb : List Sec} {La Lb : Int → Option Sec} {M : Mn} {c : Int} {b : UInt8} {Q : Exit → Act → World → Prop} {t : Int} {x t2 x2 y N : Int} {m : Nat} (a : Act) (w : World) (k : Fr 479 a)
    (e2 : a.eval (.tmp 2) = .int .i64 ↑sz) (e3 : a.eval (.tmp 3) = .slice A len capA) (e10 : a.eval (.tmp 10) = .pointer (some ⟨p, 0, none⟩)) (e11 : a.eval (.tmp 11) = .pointer (some ⟨p2, 0, none⟩)) (e12 : a.eval (.tmp 12) = .pointer (some ⟨db, 0, none⟩)) (e14 : a.eval (.tmp 14) = .pointer (some ⟨ub, 0, none⟩)) (e15 : a.eval (.tmp 15) = .int .i64 ↑i) (e16 : a.eval (.tmp 16) = .pointer (some ⟨xb, 0, none⟩)) (e17 : a.eval (.tmp 17) = .bool (isK sz na nb t x)) (e18 : a.eval (.tmp 18) = .int .i64 ↑m) (e19 : a.eval (.tmp 19) = .bool (fitsB sz y m)) (e144 : a.eval (.tmp 144) = .int .i64 5)
    (O : OwnT H A0 [tDisc p mb B na cap bm Sa La, tMn mb M, tDisc p2 mb B2 nb cap2 bm2 Sb Lb, tBlk db 149 #[.pointer (some ⟨p, 0, none⟩), .pointer (some ⟨p2, 0, none⟩), .int .i64 ↑sz], tBlk ub 107 #[.slice D1 na c1, .slice D2 nb c2, .int .i64 ↑sz], tRow 9 1 (.slice D1 na c1) na (strsV (nowL Sa La)), tRow 9 1 (.slice D2 nb c2) nb (strsV (nowL Sb Lb)), tBlk xb 101 #[.int .i64 5, .int .i64 t, .int .i64 x, .int .i64 t2, .int .i64 x2, .int .i64 y, .int .i64 N, .int .u8 ↑b.toNat]] w) (hs : 0 < sz) (hz : sz ≤ 8) (hF : M.Free) (hM : M.Ok c) (hc : c ≤ 100000) (hm : m ≤ 10)
    (hQ : ∀ a w Sa' Sb' La' Lb' M', Fr 479 a → a.eval (.tmp 2) = .int .i64 ↑sz → a.eval (.tmp 3) = .slice A len capA → a.eval (.tmp 10) = .pointer (some ⟨p, 0, none⟩) → a.eval (.tmp 11) = .pointer (some ⟨p2, 0, none⟩) → a.eval (.tmp 12) = .pointer (some ⟨db, 0, none⟩) → a.eval (.tmp 14) = .pointer (some ⟨ub, 0, none⟩) → a.eval (.tmp 15) = .int .i64 ↑i → M'.Free → M'.Ok (c + 20) → OwnT H A0 [tDisc p mb B na cap bm Sa' La', tMn mb M', tDisc p2 mb B2 nb cap2 bm2 Sb' Lb', tBlk db 149 #[.pointer (some ⟨p, 0, none⟩), .pointer (some ⟨p2, 0, none⟩), .int .i64 ↑sz], tBlk ub 107 #[.slice D1 na c1, .slice D2 nb c2, .int .i64 ↑sz], tRow 9 1 (.slice D1 na c1) na (strsV (nowL Sa' La')), tRow 9 1 (.slice D2 nb c2) nb (strsV (nowL Sb' Lb')), tBlk xb 101 #[.int .i64 5, .int .i64 t, .int .i64 x, .int .i64 t2, .int .i64 x2, .int .i64 y, .int .i64 N, .int .u8 ↑b.toNat]] w → Q .normal a w) : Code.wp Try.prog (codeAt [1, 1, 1, 1, 1, 1, 1, 1, 1, 1, 0, 1, 0, 0, 1, 0, 0, 1, 1, 1, 1, 0, 1] (Try.f10.body.getD .skip)) Q a w := by
  conv => arg 2; whnf
  have hDA := (OwnT.discAt O 0 rfl).ok
  have hDB := (OwnT.discAt O 2 rfl).ok
  have hnA := hDA.le
  have hnB := hDB.le
  have hlA := hDA.len
  have hlB := hDB.len
  cases hk : isK sz na nb t x with
  | false =>
    rw [hk] at e17
    refine wp_block ?_
    refine wp_seq ?_
    refine wp_region_lit ?_
    have hE := Env.refl a [204, 203]
    apply sq_det 204 hE k rfl (by rfl) (by rfl) rfl
    case h =>
      exact x_eql rfl (hE.eval 144 (by rfl) e144) rfl
    intro a1 hE e204 kp
    apply sq_det 203 hE k rfl (by rfl) (by rfl) rfl
    case h =>
      exact x_assign rfl e204
    intro a2 hE e203 kp
    refine wpList_nil ?_
    replace e2 := hE.eval 2 (by rfl) e2
    replace e3 := hE.eval 3 (by rfl) e3
    replace e10 := hE.eval 10 (by rfl) e10
    replace e11 := hE.eval 11 (by rfl) e11
    replace e12 := hE.eval 12 (by rfl) e12
    replace e14 := hE.eval 14 (by rfl) e14
    replace e15 := hE.eval 15 (by rfl) e15
    replace e16 := hE.eval 16 (by rfl) e16
    replace e17 := hE.eval 17 (by rfl) e17
    replace e18 := hE.eval 18 (by rfl) e18
    replace e19 := hE.eval 19 (by rfl) e19
    replace e144 := hE.eval 144 (by rfl) e144
    replace k := k.env hE
    clear hE
    refine then_n ?_
    refine cond_f e203 rfl ?_
    refine wp_seq ?_
    refine wp_region_lit ?_
    have hE := Env.refl a2 [297, 296]
    apply sq_det 297 hE k rfl (by rfl) (by rfl) rfl
    case h =>
      exact x_eql rfl (hE.eval 144 (by rfl) e144) rfl
    intro a3 hE e297 kp
    apply sq_det 296 hE k rfl (by rfl) (by rfl) rfl
    case h =>
      exact x_assign rfl e297
    intro a4 hE e296 kp
    refine wpList_nil ?_
    replace e2 := hE.eval 2 (by rfl) e2
    replace e3 := hE.eval 3 (by rfl) e3
    replace e10 := hE.eval 10 (by rfl) e10
    replace e11 := hE.eval 11 (by rfl) e11
    replace e12 := hE.eval 12 (by rfl) e12
    replace e14 := hE.eval 14 (by rfl) e14
    replace e15 := hE.eval 15 (by rfl) e15
    replace e16 := hE.eval 16 (by rfl) e16
    replace e17 := hE.eval 17 (by rfl) e17
    replace e18 := hE.eval 18 (by rfl) e18
    replace e19 := hE.eval 19 (by rfl) e19
    replace e144 := hE.eval 144 (by rfl) e144
    replace k := k.env hE
    clear hE e203
    refine then_n ?_
    refine cond_f e296 rfl ?_
    refine wp_seq ?_
    refine wp_region_lit ?_
    have hE := Env.refl a4 [336, 335]
    apply sq_det 336 hE k rfl (by rfl) (by rfl) rfl
    case h =>
      exact x_eql rfl (hE.eval 144 (by rfl) e144) rfl
    intro a5 hE e336 kp
    apply sq_det 335 hE k rfl (by rfl) (by rfl) rfl
    case h =>
      exact x_assign rfl e336
    intro a6 hE e335 kp
    refine wpList_nil ?_
    replace e2 := hE.eval 2 (by rfl) e2
    replace e3 := hE.eval 3 (by rfl) e3
    replace e10 := hE.eval 10 (by rfl) e10
    replace e11 := hE.eval 11 (by rfl) e11
    replace e12 := hE.eval 12 (by rfl) e12
    replace e14 := hE.eval 14 (by rfl) e14
    replace e15 := hE.eval 15 (by rfl) e15
    replace e16 := hE.eval 16 (by rfl) e16
    replace e17 := hE.eval 17 (by rfl) e17
    replace e18 := hE.eval 18 (by rfl) e18
    replace e19 := hE.eval 19 (by rfl) e19
    replace e144 := hE.eval 144 (by rfl) e144
    replace k := k.env hE
    clear hE e296
    refine then_n ?_
    refine cond_t e335 rfl ?_
    refine wp_seq ?_
    refine wp_region_lit ?_
    have hE := Env.refl a6 [337, 338, 339, 340, 24]
    apply sq_det 337 hE k rfl (by rfl) (by rfl) rfl
    case h =>
      exact x_move rfl (hE.eval 12 (by rfl) e12)
    intro a7 hE e337 kp
    apply sq_det 338 hE k rfl (by rfl) (by rfl) rfl
    case h =>
      simp [go_sem, ↓IntWalk.iteOmega, ev (hE.eval 16 (by rfl) e16)]
      with_reducible rfl
    intro a8 hE e338 kp
    replace e337 := (kp 337 rfl).trans e337
    apply sq_det 339 hE k rfl (by rfl) (by rfl) rfl
    case h =>
      have q0 : w.cell? ⟨xb, 1, none⟩ = some (.int .i64 t) := (OwnT.blk O 7 rfl).cell 1
      have q1 : w.cell? ⟨xb, 2, none⟩ = some (.int .i64 x) := (OwnT.blk O 7 rfl).cell 2
      simp [go_sem, ↓IntWalk.iteOmega, ev e338, q0, q1]
      with_reducible rfl
    intro a9 hE e339 kp
    replace e337 := (kp 337 rfl).trans e337
    apply sq_call 340 hE k rfl (by rfl) (by rfl) rfl
    case h =>
      simp [go_sem, ↓IntWalk.iteOmega, ev e337, ev e339]
      with_reducible exact ⟨rfl, rfl⟩
    case hc => exact qzero_bad _ O hs hz hk
    rintro e w11 ⟨rfl, R⟩
    replace O := OwnT.ext O R
    refine ⟨_, rfl, ?_⟩
    intro a10 hE e340 kp
    apply sq_det 24 hE k rfl (by rfl) (by rfl) rfl
    case h =>
      exact x_assign rfl e340
    intro a12 hE e24 kp
    refine wpList_nil ?_
    replace e2 := hE.eval 2 (by rfl) e2
    replace e3 := hE.eval 3 (by rfl) e3
    replace e10 := hE.eval 10 (by rfl) e10
    replace e11 := hE.eval 11 (by rfl) e11
    replace e12 := hE.eval 12 (by rfl) e12
    replace e14 := hE.eval 14 (by rfl) e14
    replace e15 := hE.eval 15 (by rfl) e15
    replace e16 := hE.eval 16 (by rfl) e16
    replace e17 := hE.eval 17 (by rfl) e17
    replace k := k.env hE
    clear hE e18 e19 e144 e335
    refine then_n ?_
    refine wp_seq ?_
    refine wp_seq ?_
    refine wp_region_lit ?_
    have hE := Env.refl a12 [341, 342, 343, 344, 345, 346, 347, 348, 349, 350, 351, 352]
    apply sq_det 341 hE k rfl (by rfl) (by rfl) rfl
    case h =>
      exact x_move rfl (hE.eval 17 (by rfl) e17)
    intro a13 hE e341 kp
    apply sq_det 342 hE k rfl (by rfl) (by rfl) rfl
    case h =>
      exact x_move rfl (hE.eval 24 (by rfl) e24)
    intro a14 hE e342 kp
    replace e341 := (kp 341 rfl).trans e341
    apply sq_det 343 hE k rfl (by rfl) (by rfl) rfl
    case h =>
      exact x_eql rfl e342 rfl
    intro a15 hE e343 kp
    replace e341 := (kp 341 rfl).trans e341
    apply sq_det 344 hE k rfl (by rfl) (by rfl) rfl
    case h =>
      simp [go_sem, ↓IntWalk.iteOmega, ev e341, ev e343]
      with_reducible rfl
    intro a16 hE e344 kp
    apply sq_det 345 hE k rfl (by rfl) (by rfl) rfl
    case h =>
      exact x_move rfl e344
    intro a17 hE e345 kp
    apply sq_detg 346 hE k rfl (by rfl) (by rfl) rfl rfl e345
    case h =>
      exact x_move rfl (hE.eval 17 (by rfl) e17)
    intro a18 hE e346 kp
    replace e345 := (kp 345 rfl).trans e345
    apply sq_detg 347 hE k rfl (by rfl) (by rfl) rfl rfl e345
    case h =>
      exact x_not rfl e346
    intro a19 hE e347 kp
    replace e345 := (kp 345 rfl).trans e345
    apply sq_detg 348 hE k rfl (by rfl) (by rfl) rfl rfl e345
    case h =>
      exact x_move rfl e347
    intro a20 hE e348 kp
    replace e345 := (kp 345 rfl).trans e345
    apply sq_detg 349 hE k rfl (by rfl) (by rfl) rfl rfl e348
    case h =>
      exact x_move rfl (hE.eval 24 (by rfl) e24)
    intro a21 hE e349 kp
    replace e345 := (kp 345 rfl).trans e345
    replace e348 := (kp 348 rfl).trans e348
    apply sq_detg 350 hE k rfl (by rfl) (by rfl) rfl rfl e348
    case h =>
      exact x_neq rfl e349 rfl
    intro a22 hE e350 kp
    replace e345 := (kp 345 rfl).trans e345
    replace e348 := (kp 348 rfl).trans e348
    apply sq_detg 351 hE k rfl (by rfl) (by rfl) rfl rfl e345
    case h =>
      exact x_pick_t rfl e348 e350
    intro a23 hE e351 kp
    replace e345 := (kp 345 rfl).trans e345
    apply sq_det 352 hE k rfl (by rfl) (by rfl) rfl
    case h =>
      exact x_pick_f rfl e345 e351
    intro a24 hE e352 kp
    refine wpList_nil ?_
    replace e2 := hE.eval 2 (by rfl) e2
    replace e3 := hE.eval 3 (by rfl) e3
    replace e10 := hE.eval 10 (by rfl) e10
    replace e11 := hE.eval 11 (by rfl) e11
    replace e12 := hE.eval 12 (by rfl) e12
    replace e14 := hE.eval 14 (by rfl) e14
    replace e15 := hE.eval 15 (by rfl) e15
    replace e16 := hE.eval 16 (by rfl) e16
    replace e17 := hE.eval 17 (by rfl) e17
    replace k := k.env hE
    clear hE e24
    refine then_n ?_
    refine cond_f e352 rfl ?_
    refine wp_skip ?_
    refine then_n ?_
    refine wp_seq ?_
    refine wp_region_lit ?_
    have hE := Env.refl a24 [353]
    apply sq_det 353 hE k rfl (by rfl) (by rfl) rfl
    case h =>
      exact x_move rfl (hE.eval 17 (by rfl) e17)
    intro a25 hE e353 kp
    refine wpList_nil ?_
    replace e2 := hE.eval 2 (by rfl) e2
    replace e3 := hE.eval 3 (by rfl) e3
    replace e10 := hE.eval 10 (by rfl) e10
    replace e11 := hE.eval 11 (by rfl) e11
    replace e12 := hE.eval 12 (by rfl) e12
    replace e14 := hE.eval 14 (by rfl) e14
    replace e15 := hE.eval 15 (by rfl) e15
    replace e16 := hE.eval 16 (by rfl) e16
    replace k := k.env hE
    clear hE e17 e352
    refine then_n ?_
    refine cond_f e353 rfl ?_
    refine wp_skip ?_
    refine block_n ?_
    exact hQ _ _ _ _ _ _ _ k e2 e3 e10 e11 e12 e14 e15 hF (hM.mono (by omega)) O
  | true =>
    rw [hk] at e17
    refine wp_block ?_
    refine wp_seq ?_
    refine wp_region_lit ?_
    have hE := Env.refl a [204, 203]
    apply sq_det 204 hE k rfl (by rfl) (by rfl) rfl
    case h =>
      exact x_eql rfl (hE.eval 144 (by rfl) e144) rfl
    intro a26 hE e204 kp
    apply sq_det 203 hE k rfl (by rfl) (by rfl) rfl
    case h =>
      exact x_assign rfl e204
    intro a27 hE e203 kp
    refine wpList_nil ?_
    replace e2 := hE.eval 2 (by rfl) e2
    replace e3 := hE.eval 3 (by rfl) e3
    replace e10 := hE.eval 10 (by rfl) e10
    replace e11 := hE.eval 11 (by rfl) e11
    replace e12 := hE.eval 12 (by rfl) e12
    replace e14 := hE.eval 14 (by rfl) e14
    replace e15 := hE.eval 15 (by rfl) e15
    replace e16 := hE.eval 16 (by rfl) e16
    replace e17 := hE.eval 17 (by rfl) e17
    replace e18 := hE.eval 18 (by rfl) e18
    replace e19 := hE.eval 19 (by rfl) e19
    replace e144 := hE.eval 144 (by rfl) e144
    replace k := k.env hE
    clear hE
    refine then_n ?_
    refine cond_f e203 rfl ?_
    refine wp_seq ?_
    refine wp_region_lit ?_
    have hE := Env.refl a27 [297, 296]
    apply sq_det 297 hE k rfl (by rfl) (by rfl) rfl
    case h =>
      exact x_eql rfl (hE.eval 144 (by rfl) e144) rfl
    intro a28 hE e297 kp
    apply sq_det 296 hE k rfl (by rfl) (by rfl) rfl
    case h =>
      exact x_assign rfl e297
    intro a29 hE e296 kp
    refine wpList_nil ?_
    replace e2 := hE.eval 2 (by rfl) e2
    replace e3 := hE.eval 3 (by rfl) e3
    replace e10 := hE.eval 10 (by rfl) e10
    replace e11 := hE.eval 11 (by rfl) e11
    replace e12 := hE.eval 12 (by rfl) e12
    replace e14 := hE.eval 14 (by rfl) e14
    replace e15 := hE.eval 15 (by rfl) e15
    replace e16 := hE.eval 16 (by rfl) e16
    replace e17 := hE.eval 17 (by rfl) e17
    replace e18 := hE.eval 18 (by rfl) e18
    replace e19 := hE.eval 19 (by rfl) e19
    replace e144 := hE.eval 144 (by rfl) e144
    replace k := k.env hE
    clear hE e203
    refine then_n ?_
    refine cond_f e296 rfl ?_
    refine wp_seq ?_
    refine wp_region_lit ?_
    have hE := Env.refl a29 [336, 335]
    apply sq_det 336 hE k rfl (by rfl) (by rfl) rfl
    case h =>
      exact x_eql rfl (hE.eval 144 (by rfl) e144) rfl
    intro a30 hE e336 kp
    apply sq_det 335 hE k rfl (by rfl) (by rfl) rfl
    case h =>
      exact x_assign rfl e336
    intro a31 hE e335 kp
    refine wpList_nil ?_
    replace e2 := hE.eval 2 (by rfl) e2
    replace e3 := hE.eval 3 (by rfl) e3
    replace e10 := hE.eval 10 (by rfl) e10
    replace e11 := hE.eval 11 (by rfl) e11
    replace e12 := hE.eval 12 (by rfl) e12
    replace e14 := hE.eval 14 (by rfl) e14
    replace e15 := hE.eval 15 (by rfl) e15
    replace e16 := hE.eval 16 (by rfl) e16
    replace e17 := hE.eval 17 (by rfl) e17
    replace e18 := hE.eval 18 (by rfl) e18
    replace e19 := hE.eval 19 (by rfl) e19
    replace e144 := hE.eval 144 (by rfl) e144
    replace k := k.env hE
    clear hE e296
    refine then_n ?_
    refine cond_t e335 rfl ?_
    refine wp_seq ?_
    refine wp_region_lit ?_
    have hE := Env.refl a31 [337, 338, 339, 340, 24]
    apply sq_det 337 hE k rfl (by rfl) (by rfl) rfl
    case h =>
      exact x_move rfl (hE.eval 12 (by rfl) e12)
    intro a32 hE e337 kp
    apply sq_det 338 hE k rfl (by rfl) (by rfl) rfl
    case h =>
      simp [go_sem, ↓IntWalk.iteOmega, ev (hE.eval 16 (by rfl) e16)]
      with_reducible rfl
    intro a33 hE e338 kp
    replace e337 := (kp 337 rfl).trans e337
    apply sq_det 339 hE k rfl (by rfl) (by rfl) rfl
    case h =>
      have q0 : w.cell? ⟨xb, 1, none⟩ = some (.int .i64 t) := (OwnT.blk O 7 rfl).cell 1
      have q1 : w.cell? ⟨xb, 2, none⟩ = some (.int .i64 x) := (OwnT.blk O 7 rfl).cell 2
      simp [go_sem, ↓IntWalk.iteOmega, ev e338, q0, q1]
      with_reducible rfl
    intro a34 hE e339 kp
    replace e337 := (kp 337 rfl).trans e337
    apply sq_call 340 hE k rfl (by rfl) (by rfl) rfl
    case h =>
      simp [go_sem, ↓IntWalk.iteOmega, ev e337, ev e339]
      with_reducible exact ⟨rfl, rfl⟩
    case hc => exact qzero_ok _ O hs hz hk hM (by omega) hF
    clear O
    rintro e w36 ⟨r, rfl, rfl, La', Lb', M', hF', hM', hkd, O⟩
    refine ⟨_, rfl, ?_⟩
    intro a35 hE e340 kp
    apply sq_det 24 hE k rfl (by rfl) (by rfl) rfl
    case h =>
      exact x_assign rfl e340
    intro a37 hE e24 kp
    refine wpList_nil ?_
    replace e2 := hE.eval 2 (by rfl) e2
    replace e3 := hE.eval 3 (by rfl) e3
    replace e10 := hE.eval 10 (by rfl) e10
    replace e11 := hE.eval 11 (by rfl) e11
    replace e12 := hE.eval 12 (by rfl) e12
    replace e14 := hE.eval 14 (by rfl) e14
    replace e15 := hE.eval 15 (by rfl) e15
    replace e16 := hE.eval 16 (by rfl) e16
    replace e17 := hE.eval 17 (by rfl) e17
    replace k := k.env hE
    clear hE e18 e19 e144 e335
    refine then_n ?_
    refine wp_seq ?_
    refine wp_seq ?_
    refine wp_region_lit ?_
    have hE := Env.refl a37 [341, 342, 343, 344, 345, 346, 347, 348, 349, 350, 351, 352]
    apply sq_det 341 hE k rfl (by rfl) (by rfl) rfl
    case h =>
      exact x_move rfl (hE.eval 17 (by rfl) e17)
    intro a38 hE e341 kp
    apply sq_det 342 hE k rfl (by rfl) (by rfl) rfl
    case h =>
      exact x_move rfl (hE.eval 24 (by rfl) e24)
    intro a39 hE e342 kp
    replace e341 := (kp 341 rfl).trans e341
    apply sq_det 343 hE k rfl (by rfl) (by rfl) rfl
    case h =>
      exact x_eql rfl e342 rfl
    intro a40 hE e343 kp
    replace e341 := (kp 341 rfl).trans e341
    apply sq_det 344 hE k rfl (by rfl) (by rfl) rfl
    case h =>
      simp [go_sem, ↓IntWalk.iteOmega, ev e341, ev e343]
      with_reducible rfl
    intro a41 hE e344 kp
    apply sq_det 345 hE k rfl (by rfl) (by rfl) rfl
    case h =>
      exact x_move rfl e344
    intro a42 hE e345 kp
    apply sq_detg 346 hE k rfl (by rfl) (by rfl) rfl rfl e345
    case h =>
      exact x_move rfl (hE.eval 17 (by rfl) e17)
    intro a43 hE e346 kp
    replace e345 := (kp 345 rfl).trans e345
    apply sq_detg 347 hE k rfl (by rfl) (by rfl) rfl rfl e345
    case h =>
      exact x_not rfl e346
    intro a44 hE e347 kp
    replace e345 := (kp 345 rfl).trans e345
    apply sq_detg 348 hE k rfl (by rfl) (by rfl) rfl rfl e345
    case h =>
      exact x_move rfl e347
    intro a45 hE e348 kp
    replace e345 := (kp 345 rfl).trans e345
    refine sq_skipg 349 hE k rfl (by rfl) (by rfl) rfl rfl (.inl e348) ?_
    intro a46 hE e349 kp
    replace e345 := (kp 345 rfl).trans e345
    replace e348 := (kp 348 rfl).trans e348
    refine sq_skipg 350 hE k rfl (by rfl) (by rfl) rfl rfl (.inl e348) ?_
    intro a47 hE e350 kp
    replace e345 := (kp 345 rfl).trans e345
    replace e348 := (kp 348 rfl).trans e348
    apply sq_detg 351 hE k rfl (by rfl) (by rfl) rfl rfl e345
    case h =>
      exact x_pick_f rfl e348 rfl
    intro a48 hE e351 kp
    replace e345 := (kp 345 rfl).trans e345
    apply sq_det 352 hE k rfl (by rfl) (by rfl) rfl
    case h =>
      exact x_pick_f rfl e345 e351
    intro a49 hE e352 kp
    refine wpList_nil ?_
    replace e2 := hE.eval 2 (by rfl) e2
    replace e3 := hE.eval 3 (by rfl) e3
    replace e10 := hE.eval 10 (by rfl) e10
    replace e11 := hE.eval 11 (by rfl) e11
    replace e12 := hE.eval 12 (by rfl) e12
    replace e14 := hE.eval 14 (by rfl) e14
    replace e15 := hE.eval 15 (by rfl) e15
    replace e16 := hE.eval 16 (by rfl) e16
    replace e17 := hE.eval 17 (by rfl) e17
    replace k := k.env hE
    clear hE e24
    refine then_n ?_
    refine cond_f e352 rfl ?_
    refine wp_skip ?_
    refine then_n ?_
    refine wp_seq ?_
    refine wp_region_lit ?_
    have hE := Env.refl a49 [353]
    apply sq_det 353 hE k rfl (by rfl) (by rfl) rfl
    case h =>
      exact x_move rfl (hE.eval 17 (by rfl) e17)
    intro a50 hE e353 kp
    refine wpList_nil ?_
    replace e2 := hE.eval 2 (by rfl) e2
    replace e3 := hE.eval 3 (by rfl) e3
    replace e10 := hE.eval 10 (by rfl) e10
    replace e11 := hE.eval 11 (by rfl) e11
    replace e12 := hE.eval 12 (by rfl) e12
    replace e14 := hE.eval 14 (by rfl) e14
    replace e15 := hE.eval 15 (by rfl) e15
    replace e16 := hE.eval 16 (by rfl) e16
    replace k := k.env hE
    clear hE e17 e352
    refine then_n ?_
    refine cond_t e353 rfl ?_
    replace O : OwnT _ _ ([tBlk ub 107 #[.slice D1 na c1, .slice D2 nb c2, .int .i64 ↑sz], tRow 9 1 (.slice D1 na c1) na (strsV (nowL Sa La)), tRow 9 1 (.slice D2 nb c2) nb (strsV (nowL Sb Lb)), tDisc p mb B na cap bm Sa La', tMn mb M', tDisc p2 mb B2 nb cap2 bm2 Sb Lb', tBlk db 149 #[.pointer (some ⟨p, 0, none⟩), .pointer (some ⟨p2, 0, none⟩), .int .i64 ↑sz], tBlk xb 101 #[.int .i64 5, .int .i64 t, .int .i64 x, .int .i64 t2, .int .i64 x2, .int .i64 y, .int .i64 N, .int .u8 ↑b.toNat]]) w36 := OwnT.pick O [4, 5, 6, 0, 1, 2, 3, 7] (by decide)
    refine wp_tail (w0 := w36) [[], [], [1], [1, 2], [], [4], [4, 5], [], [7], [0, 1, 2, 3, 4, 5, 6, 7, 8]] [354, 355, 356, 357, 358, 359, 360, 361, 362] (by kernel_rfl) ?_
    apply BuildL.det 354 (fun _ w_ => Ext.refl w_) (fun _ _ h => h) (by rfl) (by rw [k.size]; rfl) rfl
    case h =>
      intro lx ax wx hE hR hF
      exact x_move rfl (hE.eval 14 (by rfl) e14)
    apply BuildL.det 355 (fun _ w_ => Ext.refl w_) (fun _ _ h => h) (by rfl) (by rw [k.size]; rfl) rfl
    case h =>
      intro lx ax wx hE hR hF
      simp [go_sem, ↓IntWalk.iteOmega, ev (hE.eval 16 (by rfl) e16)]
      with_reducible rfl
    apply BuildL.det 356 (fun _ w_ => Ext.refl w_) (fun _ _ h => h) (by rfl) (by rw [k.size]; rfl) rfl
    case h =>
      intro lx ax wx hE hR hF
      have e355 : ax.eval (.tmp 355) = _ := hF 1 (detL 1 355 _) (by decide) (.head _)
      simp [go_sem, ↓IntWalk.iteOmega, ev e355]
      with_reducible rfl
    apply BuildL.det 357 (fun _ w_ => Ext.refl w_) (fun _ _ h => h) (by rfl) (by rw [k.size]; rfl) rfl
    case h =>
      intro lx ax wx hE hR hF
      have e356 : ax.eval (.tmp 356) = _ := hF 2 (detL 2 356 _) (by decide) (.head _)
      have q0 : wx.cell? ⟨xb, 1, none⟩ = some (.int .i64 t) := (OwnT.blk (OwnT.ext O hR) 7 rfl).cell 1
      simp [go_sem, ↓IntWalk.iteOmega, ev e356, q0]
      with_reducible rfl
    apply BuildL.det 358 (fun _ w_ => Ext.refl w_) (fun _ _ h => h) (by rfl) (by rw [k.size]; rfl) rfl
    case h =>
      intro lx ax wx hE hR hF
      simp [go_sem, ↓IntWalk.iteOmega, ev (hE.eval 16 (by rfl) e16)]
      with_reducible rfl
    apply BuildL.det 359 (fun _ w_ => Ext.refl w_) (fun _ _ h => h) (by rfl) (by rw [k.size]; rfl) rfl
    case h =>
      intro lx ax wx hE hR hF
      have e358 : ax.eval (.tmp 358) = _ := hF 4 (detL 4 358 _) (by decide) (.head _)
      simp [go_sem, ↓IntWalk.iteOmega, ev e358]
      with_reducible rfl
    apply BuildL.det 360 (fun _ w_ => Ext.refl w_) (fun _ _ h => h) (by rfl) (by rw [k.size]; rfl) rfl
    case h =>
      intro lx ax wx hE hR hF
      have e359 : ax.eval (.tmp 359) = _ := hF 5 (detL 5 359 _) (by decide) (.head _)
      have q0 : wx.cell? ⟨xb, 2, none⟩ = some (.int .i64 x) := (OwnT.blk (OwnT.ext O hR) 7 rfl).cell 2
      simp [go_sem, ↓IntWalk.iteOmega, ev e359, q0]
      with_reducible rfl
    apply BuildL.det 361 (fun _ w_ => Ext.refl w_) (fun _ _ h => h) (by rfl) (by rw [k.size]; rfl) rfl
    case h =>
      intro lx ax wx hE hR hF
      exact x_move rfl (hE.eval 2 (by rfl) e2)
    apply BuildL.call 362 (by rfl) (by rw [k.size]; rfl) rfl
    case h =>
      intro lx ax wx hE hR hF
      have e361 : ax.eval (.tmp 361) = _ := hF 7 (detL 7 361 _) (by decide) (.head _)
      simp [go_sem, ↓IntWalk.iteOmega, ev e361]
      with_reducible exact ⟨rfl, rfl⟩
    case hc => intro lx wx hR _ _; exact (zeros4_any sz sz wx (by omega)).mono (fun e w' h => ⟨h.1, h.2, Ext.trans hR h.2⟩)
    apply BuildL.stop
    refine ⟨by kernel_rfl, ?_⟩
    intro lx a51 w52 hE R hL hF
    have e354 : a51.eval (.tmp 354) = _ := hF 0 (detL 0 354 _) (.tail _ (.tail _ (.tail _ (.tail _ (.tail _ (.tail _ (.tail _ (.tail _ (.head _)))))))))
    have e357 : a51.eval (.tmp 357) = _ := hF 3 (detL 3 357 _) (.tail _ (.tail _ (.tail _ (.tail _ (.tail _ (.head _))))))
    have e360 : a51.eval (.tmp 360) = _ := hF 6 (detL 6 360 _) (.tail _ (.tail _ (.head _)))
    have e362 : a51.eval (.tmp 362) = _ := hF 8 (detL 8 362 _) (.head _)
    clear hF hL
    replace O := OwnT.ext O R
    clear R
    simp only [List.length_cons, List.length_nil, Nat.zero_add, Nat.reduceAdd, List.drop_succ_cons, List.drop_zero, List.drop_nil, tailOps]
    apply tail_call 363 [354, 355, 356, 357, 358, 359, 360, 361, 362, 363] hE k rfl (by rfl) (by rfl) (by rfl)
    case h =>
      simp [go_sem, ↓IntWalk.iteOmega, ev e354, ev e357, ev e360, ev e362]
      with_reducible exact ⟨rfl, rfl⟩
    case hc => exact uput 0 sz (List.replicate (16 * sz) 0) _ O hs hlA hlB hnA hnB hk hkd List.length_replicate (by omega)
    clear O
    rintro e w53 ⟨rfl, O⟩
    refine ⟨_, rfl, ?_⟩
    intro a54 hE e363 kp
    replace e2 := hE.eval 2 (by rfl) e2
    replace e3 := hE.eval 3 (by rfl) e3
    replace e10 := hE.eval 10 (by rfl) e10
    replace e11 := hE.eval 11 (by rfl) e11
    replace e12 := hE.eval 12 (by rfl) e12
    replace e14 := hE.eval 14 (by rfl) e14
    replace e15 := hE.eval 15 (by rfl) e15
    replace k := k.env hE
    clear hE e16 e353 e363
    refine block_n ?_
    replace O := OwnT.pick O [3, 4, 5, 6, 0, 1, 2, 7] (by decide)
    exact hQ _ _ _ _ _ _ _ k e2 e3 e10 e11 e12 e14 e15 hF' (hM'.mono (by omega)) O
set_option maxRecDepth 100000 in
set_option maxHeartbeats 4000000 in
theorem ck_flush0 {H : Nat} {A0 : World} {p mb cap bm db p2 cap2 bm2 na nb sz ub c1 c2 xb i len capA : Nat} {B B2 D1 D2 A : Option Addr} {Sa Sb : List Sec} {La Lb : Int → Option Sec} {M : Mn} {c : Int} {b : UInt8} {Q : Exit → Act → World → Prop}  {x t2 x2 y N : Int} {m : Nat} (a : Act) (w : World) (k : Fr 479 a)
    (e2 : a.eval (.tmp 2) = .int .i64 ↑sz) (e3 : a.eval (.tmp 3) = .slice A len capA) (e10 : a.eval (.tmp 10) = .pointer (some ⟨p, 0, none⟩)) (e11 : a.eval (.tmp 11) = .pointer (some ⟨p2, 0, none⟩)) (e12 : a.eval (.tmp 12) = .pointer (some ⟨db, 0, none⟩)) (e14 : a.eval (.tmp 14) = .pointer (some ⟨ub, 0, none⟩)) (e15 : a.eval (.tmp 15) = .int .i64 ↑i) (e16 : a.eval (.tmp 16) = .pointer (some ⟨xb, 0, none⟩)) (e17 : a.eval (.tmp 17) = .bool (isK sz na nb 0 x)) (e18 : a.eval (.tmp 18) = .int .i64 ↑m) (e19 : a.eval (.tmp 19) = .bool (fitsB sz y m)) (e144 : a.eval (.tmp 144) = .int .i64 6)
    (O : OwnT H A0 [tDisc p mb B na cap bm Sa La, tMn mb M, tDisc p2 mb B2 nb cap2 bm2 Sb Lb, tBlk db 149 #[.pointer (some ⟨p, 0, none⟩), .pointer (some ⟨p2, 0, none⟩), .int .i64 ↑sz], tBlk ub 107 #[.slice D1 na c1, .slice D2 nb c2, .int .i64 ↑sz], tRow 9 1 (.slice D1 na c1) na (strsV (nowL Sa La)), tRow 9 1 (.slice D2 nb c2) nb (strsV (nowL Sb Lb)), tBlk xb 101 #[.int .i64 6, .int .i64 0, .int .i64 x, .int .i64 t2, .int .i64 x2, .int .i64 y, .int .i64 N, .int .u8 ↑b.toNat]] w) (hs : 0 < sz) (hz : sz ≤ 8) (hF : M.Free) (hM : M.Ok c) (hc : c ≤ 100000) (hm : m ≤ 10)
    (hQ : ∀ a w Sa' Sb' La' Lb' M', Fr 479 a → a.eval (.tmp 2) = .int .i64 ↑sz → a.eval (.tmp 3) = .slice A len capA → a.eval (.tmp 10) = .pointer (some ⟨p, 0, none⟩) → a.eval (.tmp 11) = .pointer (some ⟨p2, 0, none⟩) → a.eval (.tmp 12) = .pointer (some ⟨db, 0, none⟩) → a.eval (.tmp 14) = .pointer (some ⟨ub, 0, none⟩) → a.eval (.tmp 15) = .int .i64 ↑i → M'.Free → M'.Ok (c + 20) → OwnT H A0 [tDisc p mb B na cap bm Sa' La', tMn mb M', tDisc p2 mb B2 nb cap2 bm2 Sb' Lb', tBlk db 149 #[.pointer (some ⟨p, 0, none⟩), .pointer (some ⟨p2, 0, none⟩), .int .i64 ↑sz], tBlk ub 107 #[.slice D1 na c1, .slice D2 nb c2, .int .i64 ↑sz], tRow 9 1 (.slice D1 na c1) na (strsV (nowL Sa' La')), tRow 9 1 (.slice D2 nb c2) nb (strsV (nowL Sb' Lb')), tBlk xb 101 #[.int .i64 6, .int .i64 0, .int .i64 x, .int .i64 t2, .int .i64 x2, .int .i64 y, .int .i64 N, .int .u8 ↑b.toNat]] w → Q .normal a w) : Code.wp Try.prog (codeAt [1, 1, 1, 1, 1, 1, 1, 1, 1, 1, 0, 1, 0, 0, 1, 0, 0, 1, 1, 1, 1, 0, 1] (Try.f10.body.getD .skip)) Q a w := by
  conv => arg 2; whnf
  have hDA := (OwnT.discAt O 0 rfl).ok
  have hDB := (OwnT.discAt O 2 rfl).ok
  have hnA := hDA.le
  have hnB := hDB.le
  have hlA := hDA.len
  have hlB := hDB.len
  refine wp_block ?_
  refine wp_seq ?_
  refine wp_region_lit ?_
  have hE := Env.refl a [204, 203]
  apply sq_det 204 hE k rfl (by rfl) (by rfl) rfl
  case h =>
    exact x_eql rfl (hE.eval 144 (by rfl) e144) rfl
  intro a1 hE e204 kp
  apply sq_det 203 hE k rfl (by rfl) (by rfl) rfl
  case h =>
    exact x_assign rfl e204
  intro a2 hE e203 kp
  refine wpList_nil ?_
  replace e2 := hE.eval 2 (by rfl) e2
  replace e3 := hE.eval 3 (by rfl) e3
  replace e10 := hE.eval 10 (by rfl) e10
  replace e11 := hE.eval 11 (by rfl) e11
  replace e12 := hE.eval 12 (by rfl) e12
  replace e14 := hE.eval 14 (by rfl) e14
  replace e15 := hE.eval 15 (by rfl) e15
  replace e16 := hE.eval 16 (by rfl) e16
  replace e17 := hE.eval 17 (by rfl) e17
  replace e18 := hE.eval 18 (by rfl) e18
  replace e19 := hE.eval 19 (by rfl) e19
  replace e144 := hE.eval 144 (by rfl) e144
  replace k := k.env hE
  clear hE
  refine then_n ?_
  refine cond_f e203 rfl ?_
  refine wp_seq ?_
  refine wp_region_lit ?_
  have hE := Env.refl a2 [297, 296]
  apply sq_det 297 hE k rfl (by rfl) (by rfl) rfl
  case h =>
    exact x_eql rfl (hE.eval 144 (by rfl) e144) rfl
  intro a3 hE e297 kp
  apply sq_det 296 hE k rfl (by rfl) (by rfl) rfl
  case h =>
    exact x_assign rfl e297
  intro a4 hE e296 kp
  refine wpList_nil ?_
  replace e2 := hE.eval 2 (by rfl) e2
  replace e3 := hE.eval 3 (by rfl) e3
  replace e10 := hE.eval 10 (by rfl) e10
  replace e11 := hE.eval 11 (by rfl) e11
  replace e12 := hE.eval 12 (by rfl) e12
  replace e14 := hE.eval 14 (by rfl) e14
  replace e15 := hE.eval 15 (by rfl) e15
  replace e16 := hE.eval 16 (by rfl) e16
  replace e17 := hE.eval 17 (by rfl) e17
  replace e18 := hE.eval 18 (by rfl) e18
  replace e19 := hE.eval 19 (by rfl) e19
  replace e144 := hE.eval 144 (by rfl) e144
  replace k := k.env hE
  clear hE e203
  refine then_n ?_
  refine cond_f e296 rfl ?_
  refine wp_seq ?_
  refine wp_region_lit ?_
  have hE := Env.refl a4 [336, 335]
  apply sq_det 336 hE k rfl (by rfl) (by rfl) rfl
  case h =>
    exact x_eql rfl (hE.eval 144 (by rfl) e144) rfl
  intro a5 hE e336 kp
  apply sq_det 335 hE k rfl (by rfl) (by rfl) rfl
  case h =>
    exact x_assign rfl e336
  intro a6 hE e335 kp
  refine wpList_nil ?_
  replace e2 := hE.eval 2 (by rfl) e2
  replace e3 := hE.eval 3 (by rfl) e3
  replace e10 := hE.eval 10 (by rfl) e10
  replace e11 := hE.eval 11 (by rfl) e11
  replace e12 := hE.eval 12 (by rfl) e12
  replace e14 := hE.eval 14 (by rfl) e14
  replace e15 := hE.eval 15 (by rfl) e15
  replace e16 := hE.eval 16 (by rfl) e16
  replace e17 := hE.eval 17 (by rfl) e17
  replace e18 := hE.eval 18 (by rfl) e18
  replace e19 := hE.eval 19 (by rfl) e19
  replace e144 := hE.eval 144 (by rfl) e144
  replace k := k.env hE
  clear hE e296
  refine then_n ?_
  refine cond_f e335 rfl ?_
  refine wp_seq ?_
  refine wp_region_lit ?_
  have hE := Env.refl a6 [365, 364]
  apply sq_det 365 hE k rfl (by rfl) (by rfl) rfl
  case h =>
    exact x_eql rfl (hE.eval 144 (by rfl) e144) rfl
  intro a7 hE e365 kp
  apply sq_det 364 hE k rfl (by rfl) (by rfl) rfl
  case h =>
    exact x_assign rfl e365
  intro a8 hE e364 kp
  refine wpList_nil ?_
  replace e2 := hE.eval 2 (by rfl) e2
  replace e3 := hE.eval 3 (by rfl) e3
  replace e10 := hE.eval 10 (by rfl) e10
  replace e11 := hE.eval 11 (by rfl) e11
  replace e12 := hE.eval 12 (by rfl) e12
  replace e14 := hE.eval 14 (by rfl) e14
  replace e15 := hE.eval 15 (by rfl) e15
  replace e16 := hE.eval 16 (by rfl) e16
  replace e17 := hE.eval 17 (by rfl) e17
  replace e18 := hE.eval 18 (by rfl) e18
  replace e19 := hE.eval 19 (by rfl) e19
  replace k := k.env hE
  clear hE e144 e335
  refine then_n ?_
  refine cond_t e364 rfl ?_
  refine wp_seq ?_
  refine wp_region_lit ?_
  have hE := Env.refl a8 [366, 367, 368, 369, 370, 25]
  apply sq_det 366 hE k rfl (by rfl) (by rfl) rfl
  case h =>
    exact x_move rfl (hE.eval 12 (by rfl) e12)
  intro a9 hE e366 kp
  apply sq_det 367 hE k rfl (by rfl) (by rfl) rfl
  case h =>
    simp [go_sem, ↓IntWalk.iteOmega, ev (hE.eval 16 (by rfl) e16)]
    with_reducible rfl
  intro a10 hE e367 kp
  replace e366 := (kp 366 rfl).trans e366
  apply sq_det 368 hE k rfl (by rfl) (by rfl) rfl
  case h =>
    simp [go_sem, ↓IntWalk.iteOmega, ev e367]
    with_reducible rfl
  intro a11 hE e368 kp
  replace e366 := (kp 366 rfl).trans e366
  apply sq_det 369 hE k rfl (by rfl) (by rfl) rfl
  case h =>
    have q0 : w.cell? ⟨xb, 1, none⟩ = some (.int .i64 0) := (OwnT.blk O 7 rfl).cell 1
    simp [go_sem, ↓IntWalk.iteOmega, ev e368, q0]
    with_reducible rfl
  intro a12 hE e369 kp
  replace e366 := (kp 366 rfl).trans e366
  apply sq_call 370 hE k rfl (by rfl) (by rfl) rfl
  case h =>
    simp [go_sem, ↓IntWalk.iteOmega, ev e366, ev e369]
    with_reducible exact ⟨rfl, rfl⟩
  case hc => exact qflush0 _ O hM (by omega) hF
  clear O
  rintro e w14 ⟨rfl, O⟩
  refine ⟨_, rfl, ?_⟩
  intro a13 hE e370 kp
  apply sq_det 25 hE k rfl (by rfl) (by rfl) rfl
  case h =>
    exact x_assign rfl e370
  intro a15 hE e25 kp
  refine wpList_nil ?_
  replace e2 := hE.eval 2 (by rfl) e2
  replace e3 := hE.eval 3 (by rfl) e3
  replace e10 := hE.eval 10 (by rfl) e10
  replace e11 := hE.eval 11 (by rfl) e11
  replace e12 := hE.eval 12 (by rfl) e12
  replace e14 := hE.eval 14 (by rfl) e14
  replace e15 := hE.eval 15 (by rfl) e15
  replace e16 := hE.eval 16 (by rfl) e16
  replace k := k.env hE
  clear hE e17 e18 e19 e364
  refine then_n ?_
  have hO2 : OwnT H A0 [tDisc p mb B na cap bm (nowL Sa La) (fun _ => none), tMn mb M.use, tDisc p2 mb B2 nb cap2 bm2 Sb Lb, tBlk db 149 #[.pointer (some ⟨p, 0, none⟩), .pointer (some ⟨p2, 0, none⟩), .int .i64 ↑sz], tBlk ub 107 #[.slice D1 na c1, .slice D2 nb c2, .int .i64 ↑sz], tRow 9 1 (.slice D1 na c1) na (strsV (nowL (nowL Sa La) (fun _ => none))), tRow 9 1 (.slice D2 nb c2) nb (strsV (nowL Sb Lb)), tBlk xb 101 #[.int .i64 6, .int .i64 0, .int .i64 x, .int .i64 t2, .int .i64 x2, .int .i64 y, .int .i64 N, .int .u8 ↑b.toNat]] w14 := by rw [nowL_none]; exact O
  clear O
  have O := hO2
  clear hO2
  refine wp_seq ?_
  refine wp_region_lit ?_
  have hE := Env.refl a15 [371, 372, 373, 374, 375, 376, 377, 378, 379, 380, 26]
  apply sq_det 371 hE k rfl (by rfl) (by rfl) rfl
  case h =>
    simp [go_sem, ↓IntWalk.iteOmega, ev (hE.eval 16 (by rfl) e16)]
    with_reducible rfl
  intro a16 hE e371 kp
  apply sq_det 372 hE k rfl (by rfl) (by rfl) rfl
  case h =>
    simp [go_sem, ↓IntWalk.iteOmega, ev e371]
    with_reducible rfl
  intro a17 hE e372 kp
  apply sq_det 373 hE k rfl (by rfl) (by rfl) rfl
  case h =>
    have q0 : w14.cell? ⟨xb, 1, none⟩ = some (.int .i64 0) := (OwnT.blk O 7 rfl).cell 1
    simp [go_sem, ↓IntWalk.iteOmega, ev e372, q0]
    with_reducible rfl
  intro a18 hE e373 kp
  apply sq_det 374 hE k rfl (by rfl) (by rfl) rfl
  case h =>
    exact x_eql rfl e373 rfl
  intro a19 hE e374 kp
  apply sq_det 375 hE k rfl (by rfl) (by rfl) rfl
  case h =>
    exact x_move rfl e374
  intro a20 hE e375 kp
  refine sq_skipg 376 hE k rfl (by rfl) (by rfl) rfl rfl (.inl e375) ?_
  intro a21 hE e376 kp
  replace e375 := (kp 375 rfl).trans e375
  refine sq_skipg 377 hE k rfl (by rfl) (by rfl) rfl rfl (.inl e375) ?_
  intro a22 hE e377 kp
  replace e375 := (kp 375 rfl).trans e375
  refine sq_skipg 378 hE k rfl (by rfl) (by rfl) rfl rfl (.inl e375) ?_
  intro a23 hE e378 kp
  replace e375 := (kp 375 rfl).trans e375
  refine sq_skipg 379 hE k rfl (by rfl) (by rfl) rfl rfl (.inl e375) ?_
  intro a24 hE e379 kp
  replace e375 := (kp 375 rfl).trans e375
  apply sq_det 380 hE k rfl (by rfl) (by rfl) rfl
  case h =>
    exact x_pick_t rfl e375 rfl
  intro a25 hE e380 kp
  apply sq_det 26 hE k rfl (by rfl) (by rfl) rfl
  case h =>
    exact x_assign rfl e380
  intro a26 hE e26 kp
  refine wpList_nil ?_
  replace e2 := hE.eval 2 (by rfl) e2
  replace e3 := hE.eval 3 (by rfl) e3
  replace e10 := hE.eval 10 (by rfl) e10
  replace e11 := hE.eval 11 (by rfl) e11
  replace e12 := hE.eval 12 (by rfl) e12
  replace e14 := hE.eval 14 (by rfl) e14
  replace e15 := hE.eval 15 (by rfl) e15
  replace e16 := hE.eval 16 (by rfl) e16
  replace e25 := hE.eval 25 (by rfl) e25
  replace k := k.env hE
  clear hE
  refine then_n ?_
  refine wp_seq ?_
  refine wp_region_lit ?_
  have hE := Env.refl a26 [381, 382, 383, 384, 385, 386, 387, 388, 389, 390, 391, 392, 393, 394, 395, 396, 397, 398, 399, 400]
  apply sq_det 381 hE k rfl (by rfl) (by rfl) rfl
  case h =>
    exact x_move rfl (hE.eval 26 (by rfl) e26)
  intro a27 hE e381 kp
  apply sq_det 382 hE k rfl (by rfl) (by rfl) rfl
  case h =>
    exact x_move rfl (hE.eval 25 (by rfl) e25)
  intro a28 hE e382 kp
  replace e381 := (kp 381 rfl).trans e381
  apply sq_det 383 hE k rfl (by rfl) (by rfl) rfl
  case h =>
    exact x_eql rfl e382 rfl
  intro a29 hE e383 kp
  replace e381 := (kp 381 rfl).trans e381
  apply sq_det 384 hE k rfl (by rfl) (by rfl) rfl
  case h =>
    simp [go_sem, ↓IntWalk.iteOmega, ev e381, ev e383]
    with_reducible rfl
  intro a30 hE e384 kp
  apply sq_det 385 hE k rfl (by rfl) (by rfl) rfl
  case h =>
    exact x_move rfl e384
  intro a31 hE e385 kp
  apply sq_detg 386 hE k rfl (by rfl) (by rfl) rfl rfl e385
  case h =>
    exact x_move rfl (hE.eval 26 (by rfl) e26)
  intro a32 hE e386 kp
  replace e385 := (kp 385 rfl).trans e385
  apply sq_detg 387 hE k rfl (by rfl) (by rfl) rfl rfl e385
  case h =>
    exact x_not rfl e386
  intro a33 hE e387 kp
  replace e385 := (kp 385 rfl).trans e385
  apply sq_detg 388 hE k rfl (by rfl) (by rfl) rfl rfl e385
  case h =>
    exact x_move rfl e387
  intro a34 hE e388 kp
  replace e385 := (kp 385 rfl).trans e385
  refine sq_skipg 389 hE k rfl (by rfl) (by rfl) rfl rfl (.inl e388) ?_
  intro a35 hE e389 kp
  replace e385 := (kp 385 rfl).trans e385
  replace e388 := (kp 388 rfl).trans e388
  refine sq_skipg 390 hE k rfl (by rfl) (by rfl) rfl rfl (.inl e388) ?_
  intro a36 hE e390 kp
  replace e385 := (kp 385 rfl).trans e385
  replace e388 := (kp 388 rfl).trans e388
  apply sq_detg 391 hE k rfl (by rfl) (by rfl) rfl rfl e385
  case h =>
    exact x_pick_f rfl e388 rfl
  intro a37 hE e391 kp
  replace e385 := (kp 385 rfl).trans e385
  apply sq_det 392 hE k rfl (by rfl) (by rfl) rfl
  case h =>
    exact x_pick_f rfl e385 e391
  intro a38 hE e392 kp
  apply sq_det 393 hE k rfl (by rfl) (by rfl) rfl
  case h =>
    exact x_move rfl e392
  intro a39 hE e393 kp
  apply sq_detg 394 hE k rfl (by rfl) (by rfl) rfl rfl e393
  case h =>
    exact x_move rfl (hE.eval 12 (by rfl) e12)
  intro a40 hE e394 kp
  replace e393 := (kp 393 rfl).trans e393
  apply sq_detg 395 hE k rfl (by rfl) (by rfl) rfl rfl e393
  case h =>
    simp [go_sem, ↓IntWalk.iteOmega, ev (hE.eval 16 (by rfl) e16)]
    with_reducible rfl
  intro a41 hE e395 kp
  replace e393 := (kp 393 rfl).trans e393
  replace e394 := (kp 394 rfl).trans e394
  apply sq_detg 396 hE k rfl (by rfl) (by rfl) rfl rfl e393
  case h =>
    simp [go_sem, ↓IntWalk.iteOmega, ev e395]
    with_reducible rfl
  intro a42 hE e396 kp
  replace e393 := (kp 393 rfl).trans e393
  replace e394 := (kp 394 rfl).trans e394
  apply sq_detg 397 hE k rfl (by rfl) (by rfl) rfl rfl e393
  case h =>
    have q0 : w14.cell? ⟨xb, 1, none⟩ = some (.int .i64 0) := (OwnT.blk O 7 rfl).cell 1
    simp [go_sem, ↓IntWalk.iteOmega, ev e396, q0]
    with_reducible rfl
  intro a43 hE e397 kp
  replace e393 := (kp 393 rfl).trans e393
  replace e394 := (kp 394 rfl).trans e394
  apply sq_callg 398 hE k rfl (by rfl) (by rfl) rfl rfl e393
  case h =>
    simp [go_sem, ↓IntWalk.iteOmega, ev e394, ev e397]
    with_reducible exact ⟨rfl, rfl⟩
  case hc => exact cloose_0 _ (OwnT.discAt O 0 rfl) (OwnT.blk O 3 rfl)
  rintro e w45 ⟨rfl, R⟩
  replace O := OwnT.ext O R
  refine ⟨_, congrArg (fun b => Ending.returned (.int .i64 (b : Nat))) (looL_nil _), ?_⟩
  intro a44 hE e398 kp
  replace e393 := (kp 393 rfl).trans e393
  apply sq_detg 399 hE k rfl (by rfl) (by rfl) rfl rfl e393
  case h =>
    exact x_dec (x_neq rfl e398 rfl) (decide_eq_false (by omega))
  intro a46 hE e399 kp
  replace e393 := (kp 393 rfl).trans e393
  apply sq_det 400 hE k rfl (by rfl) (by rfl) rfl
  case h =>
    exact x_pick_f rfl e393 e399
  intro a47 hE e400 kp
  refine wpList_nil ?_
  replace e2 := hE.eval 2 (by rfl) e2
  replace e3 := hE.eval 3 (by rfl) e3
  replace e10 := hE.eval 10 (by rfl) e10
  replace e11 := hE.eval 11 (by rfl) e11
  replace e12 := hE.eval 12 (by rfl) e12
  replace e14 := hE.eval 14 (by rfl) e14
  replace e15 := hE.eval 15 (by rfl) e15
  replace k := k.env hE
  clear hE e16 e25 e26
  refine then_n ?_
  refine cond_f e400 rfl ?_
  refine wp_skip ?_
  refine block_n ?_
  exact hQ _ _ _ _ _ _ _ k e2 e3 e10 e11 e12 e14 e15 hF.use (hM.use.mono (by omega)) O
set_option maxRecDepth 100000 in
set_option maxHeartbeats 4000000 in
theorem ck_flush1 {H : Nat} {A0 : World} {p mb cap bm db p2 cap2 bm2 na nb sz ub c1 c2 xb i len capA : Nat} {B B2 D1 D2 A : Option Addr} {Sa Sb : List Sec} {La Lb : Int → Option Sec} {M : Mn} {c : Int} {b : UInt8} {Q : Exit → Act → World → Prop}  {x t2 x2 y N : Int} {m : Nat} (a : Act) (w : World) (k : Fr 479 a)
    (e2 : a.eval (.tmp 2) = .int .i64 ↑sz) (e3 : a.eval (.tmp 3) = .slice A len capA) (e10 : a.eval (.tmp 10) = .pointer (some ⟨p, 0, none⟩)) (e11 : a.eval (.tmp 11) = .pointer (some ⟨p2, 0, none⟩)) (e12 : a.eval (.tmp 12) = .pointer (some ⟨db, 0, none⟩)) (e14 : a.eval (.tmp 14) = .pointer (some ⟨ub, 0, none⟩)) (e15 : a.eval (.tmp 15) = .int .i64 ↑i) (e16 : a.eval (.tmp 16) = .pointer (some ⟨xb, 0, none⟩)) (e17 : a.eval (.tmp 17) = .bool (isK sz na nb 1 x)) (e18 : a.eval (.tmp 18) = .int .i64 ↑m) (e19 : a.eval (.tmp 19) = .bool (fitsB sz y m)) (e144 : a.eval (.tmp 144) = .int .i64 6)
    (O : OwnT H A0 [tDisc p mb B na cap bm Sa La, tMn mb M, tDisc p2 mb B2 nb cap2 bm2 Sb Lb, tBlk db 149 #[.pointer (some ⟨p, 0, none⟩), .pointer (some ⟨p2, 0, none⟩), .int .i64 ↑sz], tBlk ub 107 #[.slice D1 na c1, .slice D2 nb c2, .int .i64 ↑sz], tRow 9 1 (.slice D1 na c1) na (strsV (nowL Sa La)), tRow 9 1 (.slice D2 nb c2) nb (strsV (nowL Sb Lb)), tBlk xb 101 #[.int .i64 6, .int .i64 1, .int .i64 x, .int .i64 t2, .int .i64 x2, .int .i64 y, .int .i64 N, .int .u8 ↑b.toNat]] w) (hs : 0 < sz) (hz : sz ≤ 8) (hF : M.Free) (hM : M.Ok c) (hc : c ≤ 100000) (hm : m ≤ 10)
    (hQ : ∀ a w Sa' Sb' La' Lb' M', Fr 479 a → a.eval (.tmp 2) = .int .i64 ↑sz → a.eval (.tmp 3) = .slice A len capA → a.eval (.tmp 10) = .pointer (some ⟨p, 0, none⟩) → a.eval (.tmp 11) = .pointer (some ⟨p2, 0, none⟩) → a.eval (.tmp 12) = .pointer (some ⟨db, 0, none⟩) → a.eval (.tmp 14) = .pointer (some ⟨ub, 0, none⟩) → a.eval (.tmp 15) = .int .i64 ↑i → M'.Free → M'.Ok (c + 20) → OwnT H A0 [tDisc p mb B na cap bm Sa' La', tMn mb M', tDisc p2 mb B2 nb cap2 bm2 Sb' Lb', tBlk db 149 #[.pointer (some ⟨p, 0, none⟩), .pointer (some ⟨p2, 0, none⟩), .int .i64 ↑sz], tBlk ub 107 #[.slice D1 na c1, .slice D2 nb c2, .int .i64 ↑sz], tRow 9 1 (.slice D1 na c1) na (strsV (nowL Sa' La')), tRow 9 1 (.slice D2 nb c2) nb (strsV (nowL Sb' Lb')), tBlk xb 101 #[.int .i64 6, .int .i64 1, .int .i64 x, .int .i64 t2, .int .i64 x2, .int .i64 y, .int .i64 N, .int .u8 ↑b.toNat]] w → Q .normal a w) : Code.wp Try.prog (codeAt [1, 1, 1, 1, 1, 1, 1, 1, 1, 1, 0, 1, 0, 0, 1, 0, 0, 1, 1, 1, 1, 0, 1] (Try.f10.body.getD .skip)) Q a w := by
  conv => arg 2; whnf
  have hDA := (OwnT.discAt O 0 rfl).ok
  have hDB := (OwnT.discAt O 2 rfl).ok
  have hnA := hDA.le
  have hnB := hDB.le
  have hlA := hDA.len
  have hlB := hDB.len
  refine wp_block ?_
  refine wp_seq ?_
  refine wp_region_lit ?_
  have hE := Env.refl a [204, 203]
  apply sq_det 204 hE k rfl (by rfl) (by rfl) rfl
  case h =>
    exact x_eql rfl (hE.eval 144 (by rfl) e144) rfl
  intro a1 hE e204 kp
  apply sq_det 203 hE k rfl (by rfl) (by rfl) rfl
  case h =>
    exact x_assign rfl e204
  intro a2 hE e203 kp
  refine wpList_nil ?_
  replace e2 := hE.eval 2 (by rfl) e2
  replace e3 := hE.eval 3 (by rfl) e3
  replace e10 := hE.eval 10 (by rfl) e10
  replace e11 := hE.eval 11 (by rfl) e11
  replace e12 := hE.eval 12 (by rfl) e12
  replace e14 := hE.eval 14 (by rfl) e14
  replace e15 := hE.eval 15 (by rfl) e15
  replace e16 := hE.eval 16 (by rfl) e16
  replace e17 := hE.eval 17 (by rfl) e17
  replace e18 := hE.eval 18 (by rfl) e18
  replace e19 := hE.eval 19 (by rfl) e19
  replace e144 := hE.eval 144 (by rfl) e144
  replace k := k.env hE
  clear hE
  refine then_n ?_
  refine cond_f e203 rfl ?_
  refine wp_seq ?_
  refine wp_region_lit ?_
  have hE := Env.refl a2 [297, 296]
  apply sq_det 297 hE k rfl (by rfl) (by rfl) rfl
  case h =>
    exact x_eql rfl (hE.eval 144 (by rfl) e144) rfl
  intro a3 hE e297 kp
  apply sq_det 296 hE k rfl (by rfl) (by rfl) rfl
  case h =>
    exact x_assign rfl e297
  intro a4 hE e296 kp
  refine wpList_nil ?_
  replace e2 := hE.eval 2 (by rfl) e2
  replace e3 := hE.eval 3 (by rfl) e3
  replace e10 := hE.eval 10 (by rfl) e10
  replace e11 := hE.eval 11 (by rfl) e11
  replace e12 := hE.eval 12 (by rfl) e12
  replace e14 := hE.eval 14 (by rfl) e14
  replace e15 := hE.eval 15 (by rfl) e15
  replace e16 := hE.eval 16 (by rfl) e16
  replace e17 := hE.eval 17 (by rfl) e17
  replace e18 := hE.eval 18 (by rfl) e18
  replace e19 := hE.eval 19 (by rfl) e19
  replace e144 := hE.eval 144 (by rfl) e144
  replace k := k.env hE
  clear hE e203
  refine then_n ?_
  refine cond_f e296 rfl ?_
  refine wp_seq ?_
  refine wp_region_lit ?_
  have hE := Env.refl a4 [336, 335]
  apply sq_det 336 hE k rfl (by rfl) (by rfl) rfl
  case h =>
    exact x_eql rfl (hE.eval 144 (by rfl) e144) rfl
  intro a5 hE e336 kp
  apply sq_det 335 hE k rfl (by rfl) (by rfl) rfl
  case h =>
    exact x_assign rfl e336
  intro a6 hE e335 kp
  refine wpList_nil ?_
  replace e2 := hE.eval 2 (by rfl) e2
  replace e3 := hE.eval 3 (by rfl) e3
  replace e10 := hE.eval 10 (by rfl) e10
  replace e11 := hE.eval 11 (by rfl) e11
  replace e12 := hE.eval 12 (by rfl) e12
  replace e14 := hE.eval 14 (by rfl) e14
  replace e15 := hE.eval 15 (by rfl) e15
  replace e16 := hE.eval 16 (by rfl) e16
  replace e17 := hE.eval 17 (by rfl) e17
  replace e18 := hE.eval 18 (by rfl) e18
  replace e19 := hE.eval 19 (by rfl) e19
  replace e144 := hE.eval 144 (by rfl) e144
  replace k := k.env hE
  clear hE e296
  refine then_n ?_
  refine cond_f e335 rfl ?_
  refine wp_seq ?_
  refine wp_region_lit ?_
  have hE := Env.refl a6 [365, 364]
  apply sq_det 365 hE k rfl (by rfl) (by rfl) rfl
  case h =>
    exact x_eql rfl (hE.eval 144 (by rfl) e144) rfl
  intro a7 hE e365 kp
  apply sq_det 364 hE k rfl (by rfl) (by rfl) rfl
  case h =>
    exact x_assign rfl e365
  intro a8 hE e364 kp
  refine wpList_nil ?_
  replace e2 := hE.eval 2 (by rfl) e2
  replace e3 := hE.eval 3 (by rfl) e3
  replace e10 := hE.eval 10 (by rfl) e10
  replace e11 := hE.eval 11 (by rfl) e11
  replace e12 := hE.eval 12 (by rfl) e12
  replace e14 := hE.eval 14 (by rfl) e14
  replace e15 := hE.eval 15 (by rfl) e15
  replace e16 := hE.eval 16 (by rfl) e16
  replace e17 := hE.eval 17 (by rfl) e17
  replace e18 := hE.eval 18 (by rfl) e18
  replace e19 := hE.eval 19 (by rfl) e19
  replace k := k.env hE
  clear hE e144 e335
  refine then_n ?_
  refine cond_t e364 rfl ?_
  refine wp_seq ?_
  refine wp_region_lit ?_
  have hE := Env.refl a8 [366, 367, 368, 369, 370, 25]
  apply sq_det 366 hE k rfl (by rfl) (by rfl) rfl
  case h =>
    exact x_move rfl (hE.eval 12 (by rfl) e12)
  intro a9 hE e366 kp
  apply sq_det 367 hE k rfl (by rfl) (by rfl) rfl
  case h =>
    simp [go_sem, ↓IntWalk.iteOmega, ev (hE.eval 16 (by rfl) e16)]
    with_reducible rfl
  intro a10 hE e367 kp
  replace e366 := (kp 366 rfl).trans e366
  apply sq_det 368 hE k rfl (by rfl) (by rfl) rfl
  case h =>
    simp [go_sem, ↓IntWalk.iteOmega, ev e367]
    with_reducible rfl
  intro a11 hE e368 kp
  replace e366 := (kp 366 rfl).trans e366
  apply sq_det 369 hE k rfl (by rfl) (by rfl) rfl
  case h =>
    have q0 : w.cell? ⟨xb, 1, none⟩ = some (.int .i64 1) := (OwnT.blk O 7 rfl).cell 1
    simp [go_sem, ↓IntWalk.iteOmega, ev e368, q0]
    with_reducible rfl
  intro a12 hE e369 kp
  replace e366 := (kp 366 rfl).trans e366
  apply sq_call 370 hE k rfl (by rfl) (by rfl) rfl
  case h =>
    simp [go_sem, ↓IntWalk.iteOmega, ev e366, ev e369]
    with_reducible exact ⟨rfl, rfl⟩
  case hc => exact qflush1 _ O hM (by omega) hF
  clear O
  rintro e w14 ⟨rfl, O⟩
  refine ⟨_, rfl, ?_⟩
  intro a13 hE e370 kp
  apply sq_det 25 hE k rfl (by rfl) (by rfl) rfl
  case h =>
    exact x_assign rfl e370
  intro a15 hE e25 kp
  refine wpList_nil ?_
  replace e2 := hE.eval 2 (by rfl) e2
  replace e3 := hE.eval 3 (by rfl) e3
  replace e10 := hE.eval 10 (by rfl) e10
  replace e11 := hE.eval 11 (by rfl) e11
  replace e12 := hE.eval 12 (by rfl) e12
  replace e14 := hE.eval 14 (by rfl) e14
  replace e15 := hE.eval 15 (by rfl) e15
  replace e16 := hE.eval 16 (by rfl) e16
  replace k := k.env hE
  clear hE e17 e18 e19 e364
  refine then_n ?_
  have hO2 : OwnT H A0 [tDisc p mb B na cap bm Sa La, tMn mb M.use, tDisc p2 mb B2 nb cap2 bm2 (nowL Sb Lb) (fun _ => none), tBlk db 149 #[.pointer (some ⟨p, 0, none⟩), .pointer (some ⟨p2, 0, none⟩), .int .i64 ↑sz], tBlk ub 107 #[.slice D1 na c1, .slice D2 nb c2, .int .i64 ↑sz], tRow 9 1 (.slice D1 na c1) na (strsV (nowL Sa La)), tRow 9 1 (.slice D2 nb c2) nb (strsV (nowL (nowL Sb Lb) (fun _ => none))), tBlk xb 101 #[.int .i64 6, .int .i64 1, .int .i64 x, .int .i64 t2, .int .i64 x2, .int .i64 y, .int .i64 N, .int .u8 ↑b.toNat]] w14 := by rw [nowL_none]; exact O
  clear O
  have O := hO2
  clear hO2
  refine wp_seq ?_
  refine wp_region_lit ?_
  have hE := Env.refl a15 [371, 372, 373, 374, 375, 376, 377, 378, 379, 380, 26]
  apply sq_det 371 hE k rfl (by rfl) (by rfl) rfl
  case h =>
    simp [go_sem, ↓IntWalk.iteOmega, ev (hE.eval 16 (by rfl) e16)]
    with_reducible rfl
  intro a16 hE e371 kp
  apply sq_det 372 hE k rfl (by rfl) (by rfl) rfl
  case h =>
    simp [go_sem, ↓IntWalk.iteOmega, ev e371]
    with_reducible rfl
  intro a17 hE e372 kp
  apply sq_det 373 hE k rfl (by rfl) (by rfl) rfl
  case h =>
    have q0 : w14.cell? ⟨xb, 1, none⟩ = some (.int .i64 1) := (OwnT.blk O 7 rfl).cell 1
    simp [go_sem, ↓IntWalk.iteOmega, ev e372, q0]
    with_reducible rfl
  intro a18 hE e373 kp
  apply sq_det 374 hE k rfl (by rfl) (by rfl) rfl
  case h =>
    exact x_eql rfl e373 rfl
  intro a19 hE e374 kp
  apply sq_det 375 hE k rfl (by rfl) (by rfl) rfl
  case h =>
    exact x_move rfl e374
  intro a20 hE e375 kp
  apply sq_detg 376 hE k rfl (by rfl) (by rfl) rfl rfl e375
  case h =>
    simp [go_sem, ↓IntWalk.iteOmega, ev (hE.eval 16 (by rfl) e16)]
    with_reducible rfl
  intro a21 hE e376 kp
  replace e375 := (kp 375 rfl).trans e375
  apply sq_detg 377 hE k rfl (by rfl) (by rfl) rfl rfl e375
  case h =>
    simp [go_sem, ↓IntWalk.iteOmega, ev e376]
    with_reducible rfl
  intro a22 hE e377 kp
  replace e375 := (kp 375 rfl).trans e375
  apply sq_detg 378 hE k rfl (by rfl) (by rfl) rfl rfl e375
  case h =>
    have q0 : w14.cell? ⟨xb, 1, none⟩ = some (.int .i64 1) := (OwnT.blk O 7 rfl).cell 1
    simp [go_sem, ↓IntWalk.iteOmega, ev e377, q0]
    with_reducible rfl
  intro a23 hE e378 kp
  replace e375 := (kp 375 rfl).trans e375
  apply sq_detg 379 hE k rfl (by rfl) (by rfl) rfl rfl e375
  case h =>
    exact x_eql rfl e378 rfl
  intro a24 hE e379 kp
  replace e375 := (kp 375 rfl).trans e375
  apply sq_det 380 hE k rfl (by rfl) (by rfl) rfl
  case h =>
    exact x_pick_f rfl e375 e379
  intro a25 hE e380 kp
  apply sq_det 26 hE k rfl (by rfl) (by rfl) rfl
  case h =>
    exact x_assign rfl e380
  intro a26 hE e26 kp
  refine wpList_nil ?_
  replace e2 := hE.eval 2 (by rfl) e2
  replace e3 := hE.eval 3 (by rfl) e3
  replace e10 := hE.eval 10 (by rfl) e10
  replace e11 := hE.eval 11 (by rfl) e11
  replace e12 := hE.eval 12 (by rfl) e12
  replace e14 := hE.eval 14 (by rfl) e14
  replace e15 := hE.eval 15 (by rfl) e15
  replace e16 := hE.eval 16 (by rfl) e16
  replace e25 := hE.eval 25 (by rfl) e25
  replace k := k.env hE
  clear hE
  refine then_n ?_
  refine wp_seq ?_
  refine wp_region_lit ?_
  have hE := Env.refl a26 [381, 382, 383, 384, 385, 386, 387, 388, 389, 390, 391, 392, 393, 394, 395, 396, 397, 398, 399, 400]
  apply sq_det 381 hE k rfl (by rfl) (by rfl) rfl
  case h =>
    exact x_move rfl (hE.eval 26 (by rfl) e26)
  intro a27 hE e381 kp
  apply sq_det 382 hE k rfl (by rfl) (by rfl) rfl
  case h =>
    exact x_move rfl (hE.eval 25 (by rfl) e25)
  intro a28 hE e382 kp
  replace e381 := (kp 381 rfl).trans e381
  apply sq_det 383 hE k rfl (by rfl) (by rfl) rfl
  case h =>
    exact x_eql rfl e382 rfl
  intro a29 hE e383 kp
  replace e381 := (kp 381 rfl).trans e381
  apply sq_det 384 hE k rfl (by rfl) (by rfl) rfl
  case h =>
    simp [go_sem, ↓IntWalk.iteOmega, ev e381, ev e383]
    with_reducible rfl
  intro a30 hE e384 kp
  apply sq_det 385 hE k rfl (by rfl) (by rfl) rfl
  case h =>
    exact x_move rfl e384
  intro a31 hE e385 kp
  apply sq_detg 386 hE k rfl (by rfl) (by rfl) rfl rfl e385
  case h =>
    exact x_move rfl (hE.eval 26 (by rfl) e26)
  intro a32 hE e386 kp
  replace e385 := (kp 385 rfl).trans e385
  apply sq_detg 387 hE k rfl (by rfl) (by rfl) rfl rfl e385
  case h =>
    exact x_not rfl e386
  intro a33 hE e387 kp
  replace e385 := (kp 385 rfl).trans e385
  apply sq_detg 388 hE k rfl (by rfl) (by rfl) rfl rfl e385
  case h =>
    exact x_move rfl e387
  intro a34 hE e388 kp
  replace e385 := (kp 385 rfl).trans e385
  refine sq_skipg 389 hE k rfl (by rfl) (by rfl) rfl rfl (.inl e388) ?_
  intro a35 hE e389 kp
  replace e385 := (kp 385 rfl).trans e385
  replace e388 := (kp 388 rfl).trans e388
  refine sq_skipg 390 hE k rfl (by rfl) (by rfl) rfl rfl (.inl e388) ?_
  intro a36 hE e390 kp
  replace e385 := (kp 385 rfl).trans e385
  replace e388 := (kp 388 rfl).trans e388
  apply sq_detg 391 hE k rfl (by rfl) (by rfl) rfl rfl e385
  case h =>
    exact x_pick_f rfl e388 rfl
  intro a37 hE e391 kp
  replace e385 := (kp 385 rfl).trans e385
  apply sq_det 392 hE k rfl (by rfl) (by rfl) rfl
  case h =>
    exact x_pick_f rfl e385 e391
  intro a38 hE e392 kp
  apply sq_det 393 hE k rfl (by rfl) (by rfl) rfl
  case h =>
    exact x_move rfl e392
  intro a39 hE e393 kp
  apply sq_detg 394 hE k rfl (by rfl) (by rfl) rfl rfl e393
  case h =>
    exact x_move rfl (hE.eval 12 (by rfl) e12)
  intro a40 hE e394 kp
  replace e393 := (kp 393 rfl).trans e393
  apply sq_detg 395 hE k rfl (by rfl) (by rfl) rfl rfl e393
  case h =>
    simp [go_sem, ↓IntWalk.iteOmega, ev (hE.eval 16 (by rfl) e16)]
    with_reducible rfl
  intro a41 hE e395 kp
  replace e393 := (kp 393 rfl).trans e393
  replace e394 := (kp 394 rfl).trans e394
  apply sq_detg 396 hE k rfl (by rfl) (by rfl) rfl rfl e393
  case h =>
    simp [go_sem, ↓IntWalk.iteOmega, ev e395]
    with_reducible rfl
  intro a42 hE e396 kp
  replace e393 := (kp 393 rfl).trans e393
  replace e394 := (kp 394 rfl).trans e394
  apply sq_detg 397 hE k rfl (by rfl) (by rfl) rfl rfl e393
  case h =>
    have q0 : w14.cell? ⟨xb, 1, none⟩ = some (.int .i64 1) := (OwnT.blk O 7 rfl).cell 1
    simp [go_sem, ↓IntWalk.iteOmega, ev e396, q0]
    with_reducible rfl
  intro a43 hE e397 kp
  replace e393 := (kp 393 rfl).trans e393
  replace e394 := (kp 394 rfl).trans e394
  apply sq_callg 398 hE k rfl (by rfl) (by rfl) rfl rfl e393
  case h =>
    simp [go_sem, ↓IntWalk.iteOmega, ev e394, ev e397]
    with_reducible exact ⟨rfl, rfl⟩
  case hc => exact cloose_1 _ (OwnT.discAt O 2 rfl) (OwnT.blk O 3 rfl)
  rintro e w45 ⟨rfl, R⟩
  replace O := OwnT.ext O R
  refine ⟨_, congrArg (fun b => Ending.returned (.int .i64 (b : Nat))) (looL_nil _), ?_⟩
  intro a44 hE e398 kp
  replace e393 := (kp 393 rfl).trans e393
  apply sq_detg 399 hE k rfl (by rfl) (by rfl) rfl rfl e393
  case h =>
    exact x_dec (x_neq rfl e398 rfl) (decide_eq_false (by omega))
  intro a46 hE e399 kp
  replace e393 := (kp 393 rfl).trans e393
  apply sq_det 400 hE k rfl (by rfl) (by rfl) rfl
  case h =>
    exact x_pick_f rfl e393 e399
  intro a47 hE e400 kp
  refine wpList_nil ?_
  replace e2 := hE.eval 2 (by rfl) e2
  replace e3 := hE.eval 3 (by rfl) e3
  replace e10 := hE.eval 10 (by rfl) e10
  replace e11 := hE.eval 11 (by rfl) e11
  replace e12 := hE.eval 12 (by rfl) e12
  replace e14 := hE.eval 14 (by rfl) e14
  replace e15 := hE.eval 15 (by rfl) e15
  replace k := k.env hE
  clear hE e16 e25 e26
  refine then_n ?_
  refine cond_f e400 rfl ?_
  refine wp_skip ?_
  refine block_n ?_
  exact hQ _ _ _ _ _ _ _ k e2 e3 e10 e11 e12 e14 e15 hF.use (hM.use.mono (by omega)) O
set_option maxRecDepth 100000 in
set_option maxHeartbeats 4000000 in
theorem ck_flusht {H : Nat} {A0 : World} {p mb cap bm db p2 cap2 bm2 na nb sz ub c1 c2 xb i len capA : Nat} {B B2 D1 D2 A : Option Addr} {Sa Sb : List Sec} {La Lb : Int → Option Sec} {M : Mn} {c : Int} {b : UInt8} {Q : Exit → Act → World → Prop} {t : Int} {x t2 x2 y N : Int} {m : Nat} (a : Act) (w : World) (k : Fr 479 a)
    (e2 : a.eval (.tmp 2) = .int .i64 ↑sz) (e3 : a.eval (.tmp 3) = .slice A len capA) (e10 : a.eval (.tmp 10) = .pointer (some ⟨p, 0, none⟩)) (e11 : a.eval (.tmp 11) = .pointer (some ⟨p2, 0, none⟩)) (e12 : a.eval (.tmp 12) = .pointer (some ⟨db, 0, none⟩)) (e14 : a.eval (.tmp 14) = .pointer (some ⟨ub, 0, none⟩)) (e15 : a.eval (.tmp 15) = .int .i64 ↑i) (e16 : a.eval (.tmp 16) = .pointer (some ⟨xb, 0, none⟩)) (e17 : a.eval (.tmp 17) = .bool (isK sz na nb t x)) (e18 : a.eval (.tmp 18) = .int .i64 ↑m) (e19 : a.eval (.tmp 19) = .bool (fitsB sz y m)) (e144 : a.eval (.tmp 144) = .int .i64 6)
    (O : OwnT H A0 [tDisc p mb B na cap bm Sa La, tMn mb M, tDisc p2 mb B2 nb cap2 bm2 Sb Lb, tBlk db 149 #[.pointer (some ⟨p, 0, none⟩), .pointer (some ⟨p2, 0, none⟩), .int .i64 ↑sz], tBlk ub 107 #[.slice D1 na c1, .slice D2 nb c2, .int .i64 ↑sz], tRow 9 1 (.slice D1 na c1) na (strsV (nowL Sa La)), tRow 9 1 (.slice D2 nb c2) nb (strsV (nowL Sb Lb)), tBlk xb 101 #[.int .i64 6, .int .i64 t, .int .i64 x, .int .i64 t2, .int .i64 x2, .int .i64 y, .int .i64 N, .int .u8 ↑b.toNat]] w) (hs : 0 < sz) (hz : sz ≤ 8) (hF : M.Free) (hM : M.Ok c) (hc : c ≤ 100000) (hm : m ≤ 10) (h0 : t ≠ 0) (h1 : t ≠ 1)
    (hQ : ∀ a w Sa' Sb' La' Lb' M', Fr 479 a → a.eval (.tmp 2) = .int .i64 ↑sz → a.eval (.tmp 3) = .slice A len capA → a.eval (.tmp 10) = .pointer (some ⟨p, 0, none⟩) → a.eval (.tmp 11) = .pointer (some ⟨p2, 0, none⟩) → a.eval (.tmp 12) = .pointer (some ⟨db, 0, none⟩) → a.eval (.tmp 14) = .pointer (some ⟨ub, 0, none⟩) → a.eval (.tmp 15) = .int .i64 ↑i → M'.Free → M'.Ok (c + 20) → OwnT H A0 [tDisc p mb B na cap bm Sa' La', tMn mb M', tDisc p2 mb B2 nb cap2 bm2 Sb' Lb', tBlk db 149 #[.pointer (some ⟨p, 0, none⟩), .pointer (some ⟨p2, 0, none⟩), .int .i64 ↑sz], tBlk ub 107 #[.slice D1 na c1, .slice D2 nb c2, .int .i64 ↑sz], tRow 9 1 (.slice D1 na c1) na (strsV (nowL Sa' La')), tRow 9 1 (.slice D2 nb c2) nb (strsV (nowL Sb' Lb')), tBlk xb 101 #[.int .i64 6, .int .i64 t, .int .i64 x, .int .i64 t2, .int .i64 x2, .int .i64 y, .int .i64 N, .int .u8 ↑b.toNat]] w → Q .normal a w) : Code.wp Try.prog (codeAt [1, 1, 1, 1, 1, 1, 1, 1, 1, 1, 0, 1, 0, 0, 1, 0, 0, 1, 1, 1, 1, 0, 1] (Try.f10.body.getD .skip)) Q a w := by
  conv => arg 2; whnf
  have hDA := (OwnT.discAt O 0 rfl).ok
  have hDB := (OwnT.discAt O 2 rfl).ok
  have hnA := hDA.le
  have hnB := hDB.le
  have hlA := hDA.len
  have hlB := hDB.len
  refine wp_block ?_
  refine wp_seq ?_
  refine wp_region_lit ?_
  have hE := Env.refl a [204, 203]
  apply sq_det 204 hE k rfl (by rfl) (by rfl) rfl
  case h =>
    exact x_eql rfl (hE.eval 144 (by rfl) e144) rfl
  intro a1 hE e204 kp
  apply sq_det 203 hE k rfl (by rfl) (by rfl) rfl
  case h =>
    exact x_assign rfl e204
  intro a2 hE e203 kp
  refine wpList_nil ?_
  replace e2 := hE.eval 2 (by rfl) e2
  replace e3 := hE.eval 3 (by rfl) e3
  replace e10 := hE.eval 10 (by rfl) e10
  replace e11 := hE.eval 11 (by rfl) e11
  replace e12 := hE.eval 12 (by rfl) e12
  replace e14 := hE.eval 14 (by rfl) e14
  replace e15 := hE.eval 15 (by rfl) e15
  replace e16 := hE.eval 16 (by rfl) e16
  replace e17 := hE.eval 17 (by rfl) e17
  replace e18 := hE.eval 18 (by rfl) e18
  replace e19 := hE.eval 19 (by rfl) e19
  replace e144 := hE.eval 144 (by rfl) e144
  replace k := k.env hE
  clear hE
  refine then_n ?_
  refine cond_f e203 rfl ?_
  refine wp_seq ?_
  refine wp_region_lit ?_
  have hE := Env.refl a2 [297, 296]
  apply sq_det 297 hE k rfl (by rfl) (by rfl) rfl
  case h =>
    exact x_eql rfl (hE.eval 144 (by rfl) e144) rfl
  intro a3 hE e297 kp
  apply sq_det 296 hE k rfl (by rfl) (by rfl) rfl
  case h =>
    exact x_assign rfl e297
  intro a4 hE e296 kp
  refine wpList_nil ?_
  replace e2 := hE.eval 2 (by rfl) e2
  replace e3 := hE.eval 3 (by rfl) e3
  replace e10 := hE.eval 10 (by rfl) e10
  replace e11 := hE.eval 11 (by rfl) e11
  replace e12 := hE.eval 12 (by rfl) e12
  replace e14 := hE.eval 14 (by rfl) e14
  replace e15 := hE.eval 15 (by rfl) e15
  replace e16 := hE.eval 16 (by rfl) e16
  replace e17 := hE.eval 17 (by rfl) e17
  replace e18 := hE.eval 18 (by rfl) e18
  replace e19 := hE.eval 19 (by rfl) e19
  replace e144 := hE.eval 144 (by rfl) e144
  replace k := k.env hE
  clear hE e203
  refine then_n ?_
  refine cond_f e296 rfl ?_
  refine wp_seq ?_
  refine wp_region_lit ?_
  have hE := Env.refl a4 [336, 335]
  apply sq_det 336 hE k rfl (by rfl) (by rfl) rfl
  case h =>
    exact x_eql rfl (hE.eval 144 (by rfl) e144) rfl
  intro a5 hE e336 kp
  apply sq_det 335 hE k rfl (by rfl) (by rfl) rfl
  case h =>
    exact x_assign rfl e336
  intro a6 hE e335 kp
  refine wpList_nil ?_
  replace e2 := hE.eval 2 (by rfl) e2
  replace e3 := hE.eval 3 (by rfl) e3
  replace e10 := hE.eval 10 (by rfl) e10
  replace e11 := hE.eval 11 (by rfl) e11
  replace e12 := hE.eval 12 (by rfl) e12
  replace e14 := hE.eval 14 (by rfl) e14
  replace e15 := hE.eval 15 (by rfl) e15
  replace e16 := hE.eval 16 (by rfl) e16
  replace e17 := hE.eval 17 (by rfl) e17
  replace e18 := hE.eval 18 (by rfl) e18
  replace e19 := hE.eval 19 (by rfl) e19
  replace e144 := hE.eval 144 (by rfl) e144
  replace k := k.env hE
  clear hE e296
  refine then_n ?_
  refine cond_f e335 rfl ?_
  refine wp_seq ?_
  refine wp_region_lit ?_
  have hE := Env.refl a6 [365, 364]
  apply sq_det 365 hE k rfl (by rfl) (by rfl) rfl
  case h =>
    exact x_eql rfl (hE.eval 144 (by rfl) e144) rfl
  intro a7 hE e365 kp
  apply sq_det 364 hE k rfl (by rfl) (by rfl) rfl
  case h =>
    exact x_assign rfl e365
  intro a8 hE e364 kp
  refine wpList_nil ?_
  replace e2 := hE.eval 2 (by rfl) e2
  replace e3 := hE.eval 3 (by rfl) e3
  replace e10 := hE.eval 10 (by rfl) e10
  replace e11 := hE.eval 11 (by rfl) e11
  replace e12 := hE.eval 12 (by rfl) e12
  replace e14 := hE.eval 14 (by rfl) e14
  replace e15 := hE.eval 15 (by rfl) e15
  replace e16 := hE.eval 16 (by rfl) e16
  replace e17 := hE.eval 17 (by rfl) e17
  replace e18 := hE.eval 18 (by rfl) e18
  replace e19 := hE.eval 19 (by rfl) e19
  replace k := k.env hE
  clear hE e144 e335
  refine then_n ?_
  refine cond_t e364 rfl ?_
  refine wp_seq ?_
  refine wp_region_lit ?_
  have hE := Env.refl a8 [366, 367, 368, 369, 370, 25]
  apply sq_det 366 hE k rfl (by rfl) (by rfl) rfl
  case h =>
    exact x_move rfl (hE.eval 12 (by rfl) e12)
  intro a9 hE e366 kp
  apply sq_det 367 hE k rfl (by rfl) (by rfl) rfl
  case h =>
    simp [go_sem, ↓IntWalk.iteOmega, ev (hE.eval 16 (by rfl) e16)]
    with_reducible rfl
  intro a10 hE e367 kp
  replace e366 := (kp 366 rfl).trans e366
  apply sq_det 368 hE k rfl (by rfl) (by rfl) rfl
  case h =>
    simp [go_sem, ↓IntWalk.iteOmega, ev e367]
    with_reducible rfl
  intro a11 hE e368 kp
  replace e366 := (kp 366 rfl).trans e366
  apply sq_det 369 hE k rfl (by rfl) (by rfl) rfl
  case h =>
    have q0 : w.cell? ⟨xb, 1, none⟩ = some (.int .i64 t) := (OwnT.blk O 7 rfl).cell 1
    simp [go_sem, ↓IntWalk.iteOmega, ev e368, q0]
    with_reducible rfl
  intro a12 hE e369 kp
  replace e366 := (kp 366 rfl).trans e366
  apply sq_call 370 hE k rfl (by rfl) (by rfl) rfl
  case h =>
    simp [go_sem, ↓IntWalk.iteOmega, ev e366, ev e369]
    with_reducible exact ⟨rfl, rfl⟩
  case hc => exact cflush_bad db t _ h0 h1
  rintro e _ ⟨rfl, rfl⟩
  refine ⟨_, rfl, ?_⟩
  intro a13 hE e370 kp
  apply sq_det 25 hE k rfl (by rfl) (by rfl) rfl
  case h =>
    exact x_assign rfl e370
  intro a14 hE e25 kp
  refine wpList_nil ?_
  replace e2 := hE.eval 2 (by rfl) e2
  replace e3 := hE.eval 3 (by rfl) e3
  replace e10 := hE.eval 10 (by rfl) e10
  replace e11 := hE.eval 11 (by rfl) e11
  replace e12 := hE.eval 12 (by rfl) e12
  replace e14 := hE.eval 14 (by rfl) e14
  replace e15 := hE.eval 15 (by rfl) e15
  replace e16 := hE.eval 16 (by rfl) e16
  replace k := k.env hE
  clear hE e17 e18 e19 e364
  refine then_n ?_
  refine wp_seq ?_
  refine wp_region_lit ?_
  have hE := Env.refl a14 [371, 372, 373, 374, 375, 376, 377, 378, 379, 380, 26]
  apply sq_det 371 hE k rfl (by rfl) (by rfl) rfl
  case h =>
    simp [go_sem, ↓IntWalk.iteOmega, ev (hE.eval 16 (by rfl) e16)]
    with_reducible rfl
  intro a15 hE e371 kp
  apply sq_det 372 hE k rfl (by rfl) (by rfl) rfl
  case h =>
    simp [go_sem, ↓IntWalk.iteOmega, ev e371]
    with_reducible rfl
  intro a16 hE e372 kp
  apply sq_det 373 hE k rfl (by rfl) (by rfl) rfl
  case h =>
    have q0 : w.cell? ⟨xb, 1, none⟩ = some (.int .i64 t) := (OwnT.blk O 7 rfl).cell 1
    simp [go_sem, ↓IntWalk.iteOmega, ev e372, q0]
    with_reducible rfl
  intro a17 hE e373 kp
  apply sq_det 374 hE k rfl (by rfl) (by rfl) rfl
  case h =>
    exact x_dec (x_eql rfl e373 rfl) (decide_eq_false h0)
  intro a18 hE e374 kp
  apply sq_det 375 hE k rfl (by rfl) (by rfl) rfl
  case h =>
    exact x_move rfl e374
  intro a19 hE e375 kp
  apply sq_detg 376 hE k rfl (by rfl) (by rfl) rfl rfl e375
  case h =>
    simp [go_sem, ↓IntWalk.iteOmega, ev (hE.eval 16 (by rfl) e16)]
    with_reducible rfl
  intro a20 hE e376 kp
  replace e375 := (kp 375 rfl).trans e375
  apply sq_detg 377 hE k rfl (by rfl) (by rfl) rfl rfl e375
  case h =>
    simp [go_sem, ↓IntWalk.iteOmega, ev e376]
    with_reducible rfl
  intro a21 hE e377 kp
  replace e375 := (kp 375 rfl).trans e375
  apply sq_detg 378 hE k rfl (by rfl) (by rfl) rfl rfl e375
  case h =>
    have q0 : w.cell? ⟨xb, 1, none⟩ = some (.int .i64 t) := (OwnT.blk O 7 rfl).cell 1
    simp [go_sem, ↓IntWalk.iteOmega, ev e377, q0]
    with_reducible rfl
  intro a22 hE e378 kp
  replace e375 := (kp 375 rfl).trans e375
  apply sq_detg 379 hE k rfl (by rfl) (by rfl) rfl rfl e375
  case h =>
    exact x_dec (x_eql rfl e378 rfl) (decide_eq_false h1)
  intro a23 hE e379 kp
  replace e375 := (kp 375 rfl).trans e375
  apply sq_det 380 hE k rfl (by rfl) (by rfl) rfl
  case h =>
    exact x_pick_f rfl e375 e379
  intro a24 hE e380 kp
  apply sq_det 26 hE k rfl (by rfl) (by rfl) rfl
  case h =>
    exact x_assign rfl e380
  intro a25 hE e26 kp
  refine wpList_nil ?_
  replace e2 := hE.eval 2 (by rfl) e2
  replace e3 := hE.eval 3 (by rfl) e3
  replace e10 := hE.eval 10 (by rfl) e10
  replace e11 := hE.eval 11 (by rfl) e11
  replace e12 := hE.eval 12 (by rfl) e12
  replace e14 := hE.eval 14 (by rfl) e14
  replace e15 := hE.eval 15 (by rfl) e15
  replace e16 := hE.eval 16 (by rfl) e16
  replace e25 := hE.eval 25 (by rfl) e25
  replace k := k.env hE
  clear hE
  refine then_n ?_
  refine wp_seq ?_
  refine wp_region_lit ?_
  have hE := Env.refl a25 [381, 382, 383, 384, 385, 386, 387, 388, 389, 390, 391, 392, 393, 394, 395, 396, 397, 398, 399, 400]
  apply sq_det 381 hE k rfl (by rfl) (by rfl) rfl
  case h =>
    exact x_move rfl (hE.eval 26 (by rfl) e26)
  intro a26 hE e381 kp
  apply sq_det 382 hE k rfl (by rfl) (by rfl) rfl
  case h =>
    exact x_move rfl (hE.eval 25 (by rfl) e25)
  intro a27 hE e382 kp
  replace e381 := (kp 381 rfl).trans e381
  apply sq_det 383 hE k rfl (by rfl) (by rfl) rfl
  case h =>
    exact x_eql rfl e382 rfl
  intro a28 hE e383 kp
  replace e381 := (kp 381 rfl).trans e381
  apply sq_det 384 hE k rfl (by rfl) (by rfl) rfl
  case h =>
    simp [go_sem, ↓IntWalk.iteOmega, ev e381, ev e383]
    with_reducible rfl
  intro a29 hE e384 kp
  apply sq_det 385 hE k rfl (by rfl) (by rfl) rfl
  case h =>
    exact x_move rfl e384
  intro a30 hE e385 kp
  apply sq_detg 386 hE k rfl (by rfl) (by rfl) rfl rfl e385
  case h =>
    exact x_move rfl (hE.eval 26 (by rfl) e26)
  intro a31 hE e386 kp
  replace e385 := (kp 385 rfl).trans e385
  apply sq_detg 387 hE k rfl (by rfl) (by rfl) rfl rfl e385
  case h =>
    exact x_not rfl e386
  intro a32 hE e387 kp
  replace e385 := (kp 385 rfl).trans e385
  apply sq_detg 388 hE k rfl (by rfl) (by rfl) rfl rfl e385
  case h =>
    exact x_move rfl e387
  intro a33 hE e388 kp
  replace e385 := (kp 385 rfl).trans e385
  apply sq_detg 389 hE k rfl (by rfl) (by rfl) rfl rfl e388
  case h =>
    exact x_move rfl (hE.eval 25 (by rfl) e25)
  intro a34 hE e389 kp
  replace e385 := (kp 385 rfl).trans e385
  replace e388 := (kp 388 rfl).trans e388
  apply sq_detg 390 hE k rfl (by rfl) (by rfl) rfl rfl e388
  case h =>
    exact x_neq rfl e389 rfl
  intro a35 hE e390 kp
  replace e385 := (kp 385 rfl).trans e385
  replace e388 := (kp 388 rfl).trans e388
  apply sq_detg 391 hE k rfl (by rfl) (by rfl) rfl rfl e385
  case h =>
    exact x_pick_t rfl e388 e390
  intro a36 hE e391 kp
  replace e385 := (kp 385 rfl).trans e385
  apply sq_det 392 hE k rfl (by rfl) (by rfl) rfl
  case h =>
    exact x_pick_f rfl e385 e391
  intro a37 hE e392 kp
  apply sq_det 393 hE k rfl (by rfl) (by rfl) rfl
  case h =>
    exact x_move rfl e392
  intro a38 hE e393 kp
  apply sq_detg 394 hE k rfl (by rfl) (by rfl) rfl rfl e393
  case h =>
    exact x_move rfl (hE.eval 12 (by rfl) e12)
  intro a39 hE e394 kp
  replace e393 := (kp 393 rfl).trans e393
  apply sq_detg 395 hE k rfl (by rfl) (by rfl) rfl rfl e393
  case h =>
    simp [go_sem, ↓IntWalk.iteOmega, ev (hE.eval 16 (by rfl) e16)]
    with_reducible rfl
  intro a40 hE e395 kp
  replace e393 := (kp 393 rfl).trans e393
  replace e394 := (kp 394 rfl).trans e394
  apply sq_detg 396 hE k rfl (by rfl) (by rfl) rfl rfl e393
  case h =>
    simp [go_sem, ↓IntWalk.iteOmega, ev e395]
    with_reducible rfl
  intro a41 hE e396 kp
  replace e393 := (kp 393 rfl).trans e393
  replace e394 := (kp 394 rfl).trans e394
  apply sq_detg 397 hE k rfl (by rfl) (by rfl) rfl rfl e393
  case h =>
    have q0 : w.cell? ⟨xb, 1, none⟩ = some (.int .i64 t) := (OwnT.blk O 7 rfl).cell 1
    simp [go_sem, ↓IntWalk.iteOmega, ev e396, q0]
    with_reducible rfl
  intro a42 hE e397 kp
  replace e393 := (kp 393 rfl).trans e393
  replace e394 := (kp 394 rfl).trans e394
  apply sq_callg 398 hE k rfl (by rfl) (by rfl) rfl rfl e393
  case h =>
    simp [go_sem, ↓IntWalk.iteOmega, ev e394, ev e397]
    with_reducible exact ⟨rfl, rfl⟩
  case hc => exact cloose_bad db t _ h0 h1
  rintro e _ ⟨rfl, rfl⟩
  refine ⟨_, rfl, ?_⟩
  intro a43 hE e398 kp
  replace e393 := (kp 393 rfl).trans e393
  apply sq_detg 399 hE k rfl (by rfl) (by rfl) rfl rfl e393
  case h =>
    exact x_neq rfl e398 rfl
  intro a44 hE e399 kp
  replace e393 := (kp 393 rfl).trans e393
  apply sq_det 400 hE k rfl (by rfl) (by rfl) rfl
  case h =>
    exact x_pick_f rfl e393 e399
  intro a45 hE e400 kp
  refine wpList_nil ?_
  replace e2 := hE.eval 2 (by rfl) e2
  replace e3 := hE.eval 3 (by rfl) e3
  replace e10 := hE.eval 10 (by rfl) e10
  replace e11 := hE.eval 11 (by rfl) e11
  replace e12 := hE.eval 12 (by rfl) e12
  replace e14 := hE.eval 14 (by rfl) e14
  replace e15 := hE.eval 15 (by rfl) e15
  replace k := k.env hE
  clear hE e16 e25 e26
  refine then_n ?_
  refine cond_f e400 rfl ?_
  refine wp_skip ?_
  refine block_n ?_
  exact hQ _ _ _ _ _ _ _ k e2 e3 e10 e11 e12 e14 e15 hF (hM.mono (by omega)) O
set_option maxRecDepth 100000 in
set_option maxHeartbeats 4000000 in
theorem ck_do {H : Nat} {A0 : World} {p mb cap bm db p2 cap2 bm2 na nb sz ub c1 c2 xb i len capA : Nat} {B B2 D1 D2 A : Option Addr} {Sa Sb : List Sec} {La Lb : Int → Option Sec} {M : Mn} {c : Int} {b : UInt8} {Q : Exit → Act → World → Prop} {K t : Int} {x t2 x2 y N : Int} {m : Nat} (a : Act) (w : World) (k : Fr 479 a)
    (e2 : a.eval (.tmp 2) = .int .i64 ↑sz) (e3 : a.eval (.tmp 3) = .slice A len capA) (e10 : a.eval (.tmp 10) = .pointer (some ⟨p, 0, none⟩)) (e11 : a.eval (.tmp 11) = .pointer (some ⟨p2, 0, none⟩)) (e12 : a.eval (.tmp 12) = .pointer (some ⟨db, 0, none⟩)) (e14 : a.eval (.tmp 14) = .pointer (some ⟨ub, 0, none⟩)) (e15 : a.eval (.tmp 15) = .int .i64 ↑i) (e16 : a.eval (.tmp 16) = .pointer (some ⟨xb, 0, none⟩)) (e17 : a.eval (.tmp 17) = .bool (isK sz na nb t x)) (e18 : a.eval (.tmp 18) = .int .i64 ↑m) (e19 : a.eval (.tmp 19) = .bool (fitsB sz y m)) (e144 : a.eval (.tmp 144) = .int .i64 K)
    (O : OwnT H A0 [tDisc p mb B na cap bm Sa La, tMn mb M, tDisc p2 mb B2 nb cap2 bm2 Sb Lb, tBlk db 149 #[.pointer (some ⟨p, 0, none⟩), .pointer (some ⟨p2, 0, none⟩), .int .i64 ↑sz], tBlk ub 107 #[.slice D1 na c1, .slice D2 nb c2, .int .i64 ↑sz], tRow 9 1 (.slice D1 na c1) na (strsV (nowL Sa La)), tRow 9 1 (.slice D2 nb c2) nb (strsV (nowL Sb Lb)), tBlk xb 101 #[.int .i64 K, .int .i64 t, .int .i64 x, .int .i64 t2, .int .i64 x2, .int .i64 y, .int .i64 N, .int .u8 ↑b.toNat]] w) (hs : 0 < sz) (hz : sz ≤ 8) (hF : M.Free) (hM : M.Ok c) (hc : c ≤ 100000) (hm : m ≤ 10)
    (hQ : ∀ a w Sa' Sb' La' Lb' M', Fr 479 a → a.eval (.tmp 2) = .int .i64 ↑sz → a.eval (.tmp 3) = .slice A len capA → a.eval (.tmp 10) = .pointer (some ⟨p, 0, none⟩) → a.eval (.tmp 11) = .pointer (some ⟨p2, 0, none⟩) → a.eval (.tmp 12) = .pointer (some ⟨db, 0, none⟩) → a.eval (.tmp 14) = .pointer (some ⟨ub, 0, none⟩) → a.eval (.tmp 15) = .int .i64 ↑i → M'.Free → M'.Ok (c + 20) → OwnT H A0 [tDisc p mb B na cap bm Sa' La', tMn mb M', tDisc p2 mb B2 nb cap2 bm2 Sb' Lb', tBlk db 149 #[.pointer (some ⟨p, 0, none⟩), .pointer (some ⟨p2, 0, none⟩), .int .i64 ↑sz], tBlk ub 107 #[.slice D1 na c1, .slice D2 nb c2, .int .i64 ↑sz], tRow 9 1 (.slice D1 na c1) na (strsV (nowL Sa' La')), tRow 9 1 (.slice D2 nb c2) nb (strsV (nowL Sb' Lb')), tBlk xb 101 #[.int .i64 K, .int .i64 t, .int .i64 x, .int .i64 t2, .int .i64 x2, .int .i64 y, .int .i64 N, .int .u8 ↑b.toNat]] w → Q .normal a w) : Code.wp Try.prog (codeAt [1, 1, 1, 1, 1, 1, 1, 1, 1, 1, 0, 1, 0, 0, 1, 0, 0, 1, 1, 1, 1, 0, 1] (Try.f10.body.getD .skip)) Q a w := by
  by_cases k3 : K = 3
  · subst k3; exact ck_read _ _ k e2 e3 e10 e11 e12 e14 e15 e16 e17 e18 e19 e144 O hs hz hF hM hc hm hQ
  by_cases k4 : K = 4
  · subst k4; exact ck_copy _ _ k e2 e3 e10 e11 e12 e14 e15 e16 e17 e18 e19 e144 O hs hz hF hM hc hm hQ
  by_cases k5 : K = 5
  · subst k5; exact ck_zero _ _ k e2 e3 e10 e11 e12 e14 e15 e16 e17 e18 e19 e144 O hs hz hF hM hc hm hQ
  by_cases k6 : K = 6
  · subst k6
    by_cases h0 : t = 0
    · subst h0; exact ck_flush0 _ _ k e2 e3 e10 e11 e12 e14 e15 e16 e17 e18 e19 e144 O hs hz hF hM hc hm hQ
    by_cases h1 : t = 1
    · subst h1; exact ck_flush1 _ _ k e2 e3 e10 e11 e12 e14 e15 e16 e17 e18 e19 e144 O hs hz hF hM hc hm hQ
    exact ck_flusht _ _ k e2 e3 e10 e11 e12 e14 e15 e16 e17 e18 e19 e144 O hs hz hF hM hc hm h0 h1 hQ
  exact ck_write _ _ k e2 e3 e10 e11 e12 e14 e15 e16 e17 e18 e19 e144 O hs hz hF hM hc hm k3 k4 k5 k6 hQ
end Go.Proofs.Ytdpohbaeopidmaa
