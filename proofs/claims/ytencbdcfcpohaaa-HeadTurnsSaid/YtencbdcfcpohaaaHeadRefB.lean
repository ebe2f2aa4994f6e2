/- The walk of head's reference: Bytes. -/
import Derived.Test.YtencbdcfcpohaaaHeadRef
import Derived.RegionTactic
import Derived.Test.YtencbdcfcpohaaaTypedB
namespace Go.Proofs.Ytencbdcfcpohaaa
set_option linter.unusedVariables false
set_option linter.unusedSimpArgs false
open Go.RowKit

/-- The reference's bytes, put together by +. -/
theorem rb_le (n k : Nat) (hk : clampSize k = k) (hn : n < 18446744073709551616) (q : ByteArray) (hq : (⟨(le n k).toArray⟩ : ByteArray) = q) (w : World) :
    Calls Try.prog 18 #[.int .u64 n, .int .i64 k] w fun e w' => e = .returned (.string q) ∧ Below w.heap.size w w' := by
  have := rbytes_any n k w hn
  rw [hk, hq] at this
  exact this

theorem rb2 (n : Nat) (hn : n < 18446744073709551616) (q : ByteArray) (hq : (⟨(le n 2).toArray⟩ : ByteArray) = q) (w : World) :
    Calls Try.prog 18 #[.int .u64 n, .int .i64 2] w fun e w' => e = .returned (.string q) ∧ Below w.heap.size w w' := rb_le n 2 (by decide) hn q hq w
theorem rb4 (n : Nat) (hn : n < 18446744073709551616) (q : ByteArray) (hq : (⟨(le n 4).toArray⟩ : ByteArray) = q) (w : World) :
    Calls Try.prog 18 #[.int .u64 n, .int .i64 4] w fun e w' => e = .returned (.string q) ∧ Below w.heap.size w w' := rb_le n 4 (by decide) hn q hq w

set_option maxHeartbeats 3000000 in
theorem rhbytes_any (g r a b c : Nat) (w : World) (h : HeadOk g r a b c) :
    Calls Try.prog 10 #[headV g r a b c] w fun e w' => e = .returned (.string ⟨(sealL (headL g r a b c)).toArray⟩) ∧ Below w.heap.size w w' := by
  obtain ⟨a1, a2, b1, b2, g1, g2, r1, r2, c1, c2⟩ := h
  obtain ⟨qa, hqa⟩ : ∃ q : ByteArray, (⟨(le a 2).toArray⟩ : ByteArray) = q := ⟨_, rfl⟩
  obtain ⟨qb, hqb⟩ : ∃ q : ByteArray, (⟨(le b 2).toArray⟩ : ByteArray) = q := ⟨_, rfl⟩
  obtain ⟨qg, hqg⟩ : ∃ q : ByteArray, (⟨(le g 4).toArray⟩ : ByteArray) = q := ⟨_, rfl⟩
  obtain ⟨qr, hqr⟩ : ∃ q : ByteArray, (⟨(le r 2).toArray⟩ : ByteArray) = q := ⟨_, rfl⟩
  obtain ⟨qs, hqs⟩ : ∃ q : ByteArray, (⟨(sealL (headL g r a b c)).toArray⟩ : ByteArray) = q := ⟨_, rfl⟩
  have HG := Lib.hid (fun W => rb4 g (by omega) qg hqg W)
  have HR := Lib.hid (fun W => rb2 r (by omega) qr hqr W)
  have HS := Lib.hid (fun W => rseal_any (⟨#[84]⟩ ++ ⟨#[UInt8.ofNat c]⟩ ++ qa ++ qb ++ qg ++ qr) qs W (by rw [← hqa, ← hqb, ← hqg, ← hqr]; simp [ByteArray.size, le_length]) (by rw [← hqs, ← hqa, ← hqb, ← hqg, ← hqr]; congr 2; simp [headL, le]))
  have ng : qg.size = 4 := by rw [← hqg]; simp [ByteArray.size, le_length]
  have nr : qr.size = 2 := by rw [← hqr]; simp [ByteArray.size, le_length]
  rw [hqs]
  clear hqg hqr hqs
  have HA := Lib.hid (fun W => rb2 a (by omega) qa hqa W)
  have HB := Lib.hid (fun W => rb2 b (by omega) qb hqb W)
  have na : qa.size = 2 := by rw [← hqa]; simp [ByteArray.size, le_length]
  have nb : qb.size = 2 := by rw [← hqb]; simp [ByteArray.size, le_length]
  clear hqa hqb
  have A0 := Blk.new w 25 #[.int .u64 g, .int .i64 r, .int .i64 a, .int .i64 b, .int .i64 c]
  have B0 : Below w.heap.size w (w.alloc (.cells #[.int .u64 g, .int .i64 r, .int .i64 a, .int .i64 b, .int .i64 c] 25)) := by (repeat (first | with_reducible exact Below.refl _ _ | with_reducible assumption | with_reducible apply Below.drew | with_reducible apply below_drewN | (with_reducible refine below_set ?_ ?_; focus ((try simp); (try omega); done)) | (with_reducible refine below_new ?_ ?_; focus ((try simp); (try omega); done))))
  go_enter Try.func10, Try.ntmps10
  go_upto_region 1 with fail
  generalize w.alloc (.cells #[.int .u64 g, .int .i64 r, .int .i64 a, .int .i64 b, .int .i64 c] 25) = w0 at A0 B0 ⊢
  generalize hH : w.heap.size = H at A0 B0 ⊢
  have hc8 : IntKind.u8.wrap (c : Int) = ((UInt8.ofNat c).toNat : Int) := u8_of c
  have wa : IntKind.u64.wrap (a : Int) = (a : Int) := by simp [IntKind.wrap, IntKind.bits, IntKind.signed]; omega
  have wb : IntKind.u64.wrap (b : Int) = (b : Int) := by simp [IntKind.wrap, IntKind.bits, IntKind.signed]; omega
  have wr : IntKind.u64.wrap (r : Int) = (r : Int) := by simp [IntKind.wrap, IntKind.bits, IntKind.signed]; omega
  have hcv : ∀ (W : World) (G : Nat), W.cell? ⟨G, 0, none⟩ = some (.int .u8 (IntKind.u8.wrap c)) → (convert 42 9 (.slice (some ⟨G, 0, none⟩) 1 1)).run Try.prog W = .ok (.string ⟨#[UInt8.ofNat c]⟩) W := by
    intro W G hG
    refine conv_string W G 0 1 [UInt8.ofNat c] 1 rfl (fun i hi => ?_)
    obtain rfl : i = 0 := by omega
    rw [hc8] at hG
    exact hG
  have a2' := A0.cell 2
  have a3' := A0.cell 3
  have a4' := A0.cell 4
  have zA := A0.lt
  have HA0 := Lib.hid A0
  have HB0 := Lib.hid B0
  have HH := Lib.hid hH
  clear A0 B0 hH hc8
  refine wp_typed (R := Ext) (w0 := w0) [[], [0], [0, 1], [0, 1, 2], [0, 1, 2, 3], [0, 1, 2, 3, 4], [], [6], [6, 7], [6, 7, 8], [6, 7, 8, 9], [0, 1, 2, 3, 4, 5, 6, 7, 8, 9, 10], [], [12], [12, 13], [12, 13, 14], [6, 7, 8, 9, 10, 12, 13, 14, 15], [0, 1, 2, 3, 4, 5, 6, 7, 8, 9, 10, 11, 12, 13, 14, 15, 16], [0, 1, 2, 3, 4, 5, 6, 7, 8, 9, 10, 11, 12, 13, 14, 15, 16, 17]] [4, 5, 6, 7, 8, 9, 10, 11, 12, 13, 14, 15, 16, 17, 18, 19, 20, 21, 3] Ext.refl (fun _ _ _ => Ext.trans) (Ext.drew _) (by kernel_rfl) ?_
  apply Build.det 4 Ext.refl (by rfl) (by rfl) rfl
  case h =>   -- 0: t4 := Op.fieldAddr 25 (tmp 1) 3
    intro a wx hE hR hF
    have e1 : a.eval (.tmp 1) = .pointer (some ⟨H, 0, none⟩) := hE.eval 1 (by rfl) rfl
    simp [go_sem, BigFrame.eval_const, BigFrame.eval_global, BigFrame.eval_func, ↓IntWalk.iteOmega, ev e1]
    with_reducible rfl
  apply Build.det 5 Ext.refl (by rfl) (by rfl) rfl
  case h =>   -- 1: t5 := Op.load 3 (tmp 4)
    intro a wx hE hR hF
    have e4 : a.eval (.tmp 4) = _ := hF 0 (det 4 _) (by decide) (.head _)
    have B := HA0.out.ext hR; have q0 := B.cell 0; have q1 := B.cell 1; have q2 := B.cell 2; have q3 := B.cell 3; have q4 := B.cell 4
    simp [go_sem, BigFrame.eval_const, BigFrame.eval_global, BigFrame.eval_func, ↓IntWalk.iteOmega, ev e4, q0, q1, q2, q3, q4]
    with_reducible rfl
  apply Build.det 6 Ext.refl (by rfl) (by rfl) rfl
  case h =>   -- 2: t6 := Op.convert 3 5 (tmp 5)
    intro a wx hE hR hF
    have e5 : a.eval (.tmp 5) = _ := hF 1 (det 5 _) (by decide) (.head _)
    simp [go_sem, BigFrame.eval_const, BigFrame.eval_global, BigFrame.eval_func, ↓IntWalk.iteOmega, ev e5]
    with_reducible rfl
  refine Build.new 7 (fun v w => ∃ b, v = .slice (some ⟨b, 0, none⟩) 1 1 ∧ Blk w b 5 #[.int .u8 (IntKind.u8.wrap c)]) (fun v w w' hR ⟨b, h1, h2⟩ => ⟨b, h1, h2.ext hR⟩) (by rfl) (by rfl) rfl ?_ ?_
  · intro a wx hE hR hF
    have e6 : a.eval (.tmp 6) = _ := hF 2 (det 6 _) (by decide) (.head _)
    exact ⟨_, _, by simp [go_sem, ev e6], Ext.alloc _ _, _, rfl, Blk.new _ _ _⟩
  apply Build.det 8 Ext.refl (by rfl) (by rfl) rfl
  case h =>   -- 4: t8 := Op.convert 42 9 (tmp 7)
    intro a wx hE hR hF
    have f7 := hF 3 _ (by decide) (.head _)
    obtain ⟨b, e7, hb⟩ := f7; simp [go_sem, ev e7]; rw [hcv wx b (hb.cell 0)]; rfl
  apply Build.det 9 Ext.refl (by rfl) (by rfl) rfl
  case h =>   -- 5: t9 := Op.binOp BinOp.add 9 (const (Value.string {data := #[84]})) (tmp 8) 9
    intro a wx hE hR hF
    have e8 : a.eval (.tmp 8) = _ := hF 4 (det 8 _) (by decide) (.head _)
    simp [go_sem, BigFrame.eval_const, BigFrame.eval_global, BigFrame.eval_func, ↓IntWalk.iteOmega, ev e8]
    with_reducible rfl
  apply Build.det 10 Ext.refl (by rfl) (by rfl) rfl
  case h =>   -- 6: t10 := Op.fieldAddr 25 (tmp 1) 2
    intro a wx hE hR hF
    have e1 : a.eval (.tmp 1) = .pointer (some ⟨H, 0, none⟩) := hE.eval 1 (by rfl) rfl
    simp [go_sem, BigFrame.eval_const, BigFrame.eval_global, BigFrame.eval_func, ↓IntWalk.iteOmega, ev e1]
    with_reducible rfl
  apply Build.det 11 Ext.refl (by rfl) (by rfl) rfl
  case h =>   -- 7: t11 := Op.indexAddr 23 (tmp 10) (const (Value.int IntKind.i64 0))
    intro a wx hE hR hF
    have e10 : a.eval (.tmp 10) = _ := hF 6 (det 10 _) (by decide) (.head _)
    simp [go_sem, BigFrame.eval_const, BigFrame.eval_global, BigFrame.eval_func, ↓IntWalk.iteOmega, ev e10]
    with_reducible rfl
  apply Build.det 12 Ext.refl (by rfl) (by rfl) rfl
  case h =>   -- 8: t12 := Op.load 3 (tmp 11)
    intro a wx hE hR hF
    have e11 : a.eval (.tmp 11) = _ := hF 7 (det 11 _) (by decide) (.head _)
    have B := HA0.out.ext hR; have q0 := B.cell 0; have q1 := B.cell 1; have q2 := B.cell 2; have q3 := B.cell 3; have q4 := B.cell 4
    simp [go_sem, BigFrame.eval_const, BigFrame.eval_global, BigFrame.eval_func, ↓IntWalk.iteOmega, ev e11, q0, q1, q2, q3, q4]
    with_reducible rfl
  apply Build.det 13 Ext.refl (by rfl) (by rfl) rfl
  case h =>   -- 9: t13 := Op.convert 3 22 (tmp 12)
    intro a wx hE hR hF
    have e12 : a.eval (.tmp 12) = _ := hF 8 (det 12 _) (by decide) (.head _)
    simp [go_sem, BigFrame.eval_const, BigFrame.eval_global, BigFrame.eval_func, ↓IntWalk.iteOmega, ev e12, wa]
    with_reducible rfl
  apply Build.call 14 Ext.refl (by rfl) (by rfl) rfl
  case h =>
    intro a wx hE hR hF
    have e13 : a.eval (.tmp 13) = _ := hF 9 (det 13 _) (by decide) (.head _)
    simp [go_sem, BigFrame.eval_const, BigFrame.eval_global, BigFrame.eval_func, ↓IntWalk.iteOmega, ev e13]
    with_reducible exact ⟨rfl, rfl⟩
  case hc => intro wx hR; with_reducible exact HA.out wx
  apply Build.det 15 Ext.refl (by rfl) (by rfl) rfl
  case h =>   -- 11: t15 := Op.binOp BinOp.add 9 (tmp 9) (tmp 14) 9
    intro a wx hE hR hF
    have e9 : a.eval (.tmp 9) = _ := hF 5 (det 9 _) (by decide) (.tail _ (.tail _ (.tail _ (.tail _ (.tail _ (.head _))))))
    have e14 : a.eval (.tmp 14) = _ := hF 10 (det 14 _) (by decide) (.head _)
    simp [go_sem, BigFrame.eval_const, BigFrame.eval_global, BigFrame.eval_func, ↓IntWalk.iteOmega, ev e9, ev e14, na]
    with_reducible rfl
  apply Build.det 16 Ext.refl (by rfl) (by rfl) rfl
  case h =>   -- 12: t16 := Op.fieldAddr 25 (tmp 1) 2
    intro a wx hE hR hF
    have e1 : a.eval (.tmp 1) = .pointer (some ⟨H, 0, none⟩) := hE.eval 1 (by rfl) rfl
    simp [go_sem, BigFrame.eval_const, BigFrame.eval_global, BigFrame.eval_func, ↓IntWalk.iteOmega, ev e1]
    with_reducible rfl
  apply Build.det 17 Ext.refl (by rfl) (by rfl) rfl
  case h =>   -- 13: t17 := Op.indexAddr 23 (tmp 16) (const (Value.int IntKind.i64 1))
    intro a wx hE hR hF
    have e16 : a.eval (.tmp 16) = _ := hF 12 (det 16 _) (by decide) (.head _)
    simp [go_sem, BigFrame.eval_const, BigFrame.eval_global, BigFrame.eval_func, ↓IntWalk.iteOmega, ev e16]
    with_reducible rfl
  apply Build.det 18 Ext.refl (by rfl) (by rfl) rfl
  case h =>   -- 14: t18 := Op.load 3 (tmp 17)
    intro a wx hE hR hF
    have e17 : a.eval (.tmp 17) = _ := hF 13 (det 17 _) (by decide) (.head _)
    have B := HA0.out.ext hR; have q0 := B.cell 0; have q1 := B.cell 1; have q2 := B.cell 2; have q3 := B.cell 3; have q4 := B.cell 4
    simp [go_sem, BigFrame.eval_const, BigFrame.eval_global, BigFrame.eval_func, ↓IntWalk.iteOmega, ev e17, q0, q1, q2, q3, q4]
    with_reducible rfl
  apply Build.det 19 Ext.refl (by rfl) (by rfl) rfl
  case h =>   -- 15: t19 := Op.convert 3 22 (tmp 18)
    intro a wx hE hR hF
    have e18 : a.eval (.tmp 18) = _ := hF 14 (det 18 _) (by decide) (.head _)
    simp [go_sem, BigFrame.eval_const, BigFrame.eval_global, BigFrame.eval_func, ↓IntWalk.iteOmega, ev e18, wb]
    with_reducible rfl
  apply Build.call 20 Ext.refl (by rfl) (by rfl) rfl
  case h =>
    intro a wx hE hR hF
    have e19 : a.eval (.tmp 19) = _ := hF 15 (det 19 _) (by decide) (.head _)
    simp [go_sem, BigFrame.eval_const, BigFrame.eval_global, BigFrame.eval_func, ↓IntWalk.iteOmega, ev e19]
    with_reducible exact ⟨rfl, rfl⟩
  case hc => intro wx hR; with_reducible exact HB.out wx
  apply Build.det 21 Ext.refl (by rfl) (by rfl) rfl
  case h =>   -- 17: t21 := Op.binOp BinOp.add 9 (tmp 15) (tmp 20) 9
    intro a wx hE hR hF
    have e15 : a.eval (.tmp 15) = _ := hF 11 (det 15 _) (by decide) (.tail _ (.tail _ (.tail _ (.tail _ (.tail _ (.head _))))))
    have e20 : a.eval (.tmp 20) = _ := hF 16 (det 20 _) (by decide) (.head _)
    simp [go_sem, BigFrame.eval_const, BigFrame.eval_global, BigFrame.eval_func, ↓IntWalk.iteOmega, ev e15, ev e20, na, nb]
    with_reducible rfl
  apply Build.det 3 Ext.refl (by rfl) (by rfl) rfl
  case h =>   -- 18: t3 := Op.assign (tmp 21)
    intro a wx hE hR hF
    have e21 : a.eval (.tmp 21) = _ := hF 17 (det 21 _) (by decide) (.head _)
    simp [go_sem, BigFrame.eval_const, BigFrame.eval_global, BigFrame.eval_func, ↓IntWalk.iteOmega, ev e21]
    with_reducible rfl
  apply Build.stop
  refine ⟨by kernel_rfl, .inl ⟨rfl, ?_⟩⟩
  intro a w1 hE R1 hF
  have e4 : a.eval (.tmp 4) = _ := hF 0 (det 4 _) (.tail _ (.tail _ (.tail _ (.tail _ (.tail _ (.tail _ (.tail _ (.tail _ (.tail _ (.tail _ (.tail _ (.tail _ (.tail _ (.tail _ (.tail _ (.tail _ (.tail _ (.tail _ (.head _)))))))))))))))))))
  have e5 : a.eval (.tmp 5) = _ := hF 1 (det 5 _) (.tail _ (.tail _ (.tail _ (.tail _ (.tail _ (.tail _ (.tail _ (.tail _ (.tail _ (.tail _ (.tail _ (.tail _ (.tail _ (.tail _ (.tail _ (.tail _ (.tail _ (.head _))))))))))))))))))
  have e6 : a.eval (.tmp 6) = _ := hF 2 (det 6 _) (.tail _ (.tail _ (.tail _ (.tail _ (.tail _ (.tail _ (.tail _ (.tail _ (.tail _ (.tail _ (.tail _ (.tail _ (.tail _ (.tail _ (.tail _ (.tail _ (.head _)))))))))))))))))
  have f7 := hF 3 _ (.tail _ (.tail _ (.tail _ (.tail _ (.tail _ (.tail _ (.tail _ (.tail _ (.tail _ (.tail _ (.tail _ (.tail _ (.tail _ (.tail _ (.tail _ (.head _))))))))))))))))
  have e8 : a.eval (.tmp 8) = _ := hF 4 (det 8 _) (.tail _ (.tail _ (.tail _ (.tail _ (.tail _ (.tail _ (.tail _ (.tail _ (.tail _ (.tail _ (.tail _ (.tail _ (.tail _ (.tail _ (.head _)))))))))))))))
  have e9 : a.eval (.tmp 9) = _ := hF 5 (det 9 _) (.tail _ (.tail _ (.tail _ (.tail _ (.tail _ (.tail _ (.tail _ (.tail _ (.tail _ (.tail _ (.tail _ (.tail _ (.tail _ (.head _))))))))))))))
  have e10 : a.eval (.tmp 10) = _ := hF 6 (det 10 _) (.tail _ (.tail _ (.tail _ (.tail _ (.tail _ (.tail _ (.tail _ (.tail _ (.tail _ (.tail _ (.tail _ (.tail _ (.head _)))))))))))))
  have e11 : a.eval (.tmp 11) = _ := hF 7 (det 11 _) (.tail _ (.tail _ (.tail _ (.tail _ (.tail _ (.tail _ (.tail _ (.tail _ (.tail _ (.tail _ (.tail _ (.head _))))))))))))
  have e12 : a.eval (.tmp 12) = _ := hF 8 (det 12 _) (.tail _ (.tail _ (.tail _ (.tail _ (.tail _ (.tail _ (.tail _ (.tail _ (.tail _ (.tail _ (.head _)))))))))))
  have e13 : a.eval (.tmp 13) = _ := hF 9 (det 13 _) (.tail _ (.tail _ (.tail _ (.tail _ (.tail _ (.tail _ (.tail _ (.tail _ (.tail _ (.head _))))))))))
  have e14 : a.eval (.tmp 14) = _ := hF 10 (det 14 _) (.tail _ (.tail _ (.tail _ (.tail _ (.tail _ (.tail _ (.tail _ (.tail _ (.head _)))))))))
  have e15 : a.eval (.tmp 15) = _ := hF 11 (det 15 _) (.tail _ (.tail _ (.tail _ (.tail _ (.tail _ (.tail _ (.tail _ (.head _))))))))
  have e16 : a.eval (.tmp 16) = _ := hF 12 (det 16 _) (.tail _ (.tail _ (.tail _ (.tail _ (.tail _ (.tail _ (.head _)))))))
  have e17 : a.eval (.tmp 17) = _ := hF 13 (det 17 _) (.tail _ (.tail _ (.tail _ (.tail _ (.tail _ (.head _))))))
  have e18 : a.eval (.tmp 18) = _ := hF 14 (det 18 _) (.tail _ (.tail _ (.tail _ (.tail _ (.head _)))))
  have e19 : a.eval (.tmp 19) = _ := hF 15 (det 19 _) (.tail _ (.tail _ (.tail _ (.head _))))
  have e20 : a.eval (.tmp 20) = _ := hF 16 (det 20 _) (.tail _ (.tail _ (.head _)))
  have e21 : a.eval (.tmp 21) = _ := hF 17 (det 21 _) (.tail _ (.head _))
  have e3 : a.eval (.tmp 3) = _ := hF 18 (det 3 _) (.head _)
  obtain ⟨b, e7, -⟩ := f7
  rw [AllEq.frame (D := [4, 5, 6, 7, 8, 9, 10, 11, 12, 13, 14, 15, 16, 17, 18, 19, 20, 21, 3]) (AllEq.cons e4 (AllEq.cons e5 (AllEq.cons e6 (AllEq.cons e7 (AllEq.cons e8 (AllEq.cons e9 (AllEq.cons e10 (AllEq.cons e11 (AllEq.cons e12 (AllEq.cons e13 (AllEq.cons e14 (AllEq.cons e15 (AllEq.cons e16 (AllEq.cons e17 (AllEq.cons e18 (AllEq.cons e19 (AllEq.cons e20 (AllEq.cons e21 (AllEq.cons e3 (AllEq.nil)))))))))))))))))))) hE rfl]
  clear hF hE e4 e5 e6 e7 e8 e9 e10 e11 e12 e13 e14 e15 e16 e17 e18 e19 e20 e21 e3
  simp only [List.foldl_cons, List.foldl_nil, Act.put, List.setIfInBounds_toArray, List.set_cons_succ, List.set_cons_zero]
  go_wp2_with fail
  refine wp_typed (R := Ext) (w0 := w1) [[], [], [1], [1, 2], [0, 1, 2, 3], [], [5], [5, 6], [1, 2, 3, 5, 6, 7], [0, 1, 2, 3, 4, 5, 6, 7, 8], [0, 1, 2, 3, 4, 5, 6, 7, 8, 9], [0, 1, 2, 3, 4, 5, 6, 7, 8, 9, 10]] [22, 23, 24, 25, 26, 27, 28, 29, 30, 31, 32, 2] Ext.refl (fun _ _ _ => Ext.trans) (Ext.drew _) (by kernel_rfl) ?_
  apply Build.det 22 Ext.refl (by rfl) (by rfl) rfl
  case h =>   -- 0: t22 := Op.move (tmp 3)
    intro a wx hE hR hF
    have e3 : a.eval (.tmp 3) = .string (((⟨#[84]⟩ ++ ⟨#[UInt8.ofNat c]⟩) ++ qa) ++ qb) := hE.eval 3 (by rfl) rfl
    simp [go_sem, BigFrame.eval_const, BigFrame.eval_global, BigFrame.eval_func, ↓IntWalk.iteOmega, ev e3]
    with_reducible rfl
  apply Build.det 23 Ext.refl (by rfl) (by rfl) rfl
  case h =>   -- 1: t23 := Op.fieldAddr 25 (tmp 1) 0
    intro a wx hE hR hF
    have e1 : a.eval (.tmp 1) = .pointer (some ⟨H, 0, none⟩) := hE.eval 1 (by rfl) rfl
    simp [go_sem, BigFrame.eval_const, BigFrame.eval_global, BigFrame.eval_func, ↓IntWalk.iteOmega, ev e1]
    with_reducible rfl
  apply Build.det 24 Ext.refl (by rfl) (by rfl) rfl
  case h =>   -- 2: t24 := Op.load 22 (tmp 23)
    intro a wx hE hR hF
    have e23 : a.eval (.tmp 23) = _ := hF 1 (det 23 _) (by decide) (.head _)
    have B := (HA0.out.ext R1).ext hR; have q0 := B.cell 0; have q1 := B.cell 1; have q2 := B.cell 2; have q3 := B.cell 3; have q4 := B.cell 4
    simp [go_sem, BigFrame.eval_const, BigFrame.eval_global, BigFrame.eval_func, ↓IntWalk.iteOmega, ev e23, q0, q1, q2, q3, q4]
    with_reducible rfl
  apply Build.call 25 Ext.refl (by rfl) (by rfl) rfl
  case h =>
    intro a wx hE hR hF
    have e24 : a.eval (.tmp 24) = _ := hF 2 (det 24 _) (by decide) (.head _)
    simp [go_sem, BigFrame.eval_const, BigFrame.eval_global, BigFrame.eval_func, ↓IntWalk.iteOmega, ev e24]
    with_reducible exact ⟨rfl, rfl⟩
  case hc => intro wx hR; with_reducible exact HG.out wx
  apply Build.det 26 Ext.refl (by rfl) (by rfl) rfl
  case h =>   -- 4: t26 := Op.binOp BinOp.add 9 (tmp 22) (tmp 25) 9
    intro a wx hE hR hF
    have e22 : a.eval (.tmp 22) = _ := hF 0 (det 22 _) (by decide) (.tail _ (.tail _ (.tail _ (.head _))))
    have e25 : a.eval (.tmp 25) = _ := hF 3 (det 25 _) (by decide) (.head _)
    simp [go_sem, BigFrame.eval_const, BigFrame.eval_global, BigFrame.eval_func, ↓IntWalk.iteOmega, ev e22, ev e25, na, nb, ng]
    with_reducible rfl
  apply Build.det 27 Ext.refl (by rfl) (by rfl) rfl
  case h =>   -- 5: t27 := Op.fieldAddr 25 (tmp 1) 1
    intro a wx hE hR hF
    have e1 : a.eval (.tmp 1) = .pointer (some ⟨H, 0, none⟩) := hE.eval 1 (by rfl) rfl
    simp [go_sem, BigFrame.eval_const, BigFrame.eval_global, BigFrame.eval_func, ↓IntWalk.iteOmega, ev e1]
    with_reducible rfl
  apply Build.det 28 Ext.refl (by rfl) (by rfl) rfl
  case h =>   -- 6: t28 := Op.load 3 (tmp 27)
    intro a wx hE hR hF
    have e27 : a.eval (.tmp 27) = _ := hF 5 (det 27 _) (by decide) (.head _)
    have B := (HA0.out.ext R1).ext hR; have q0 := B.cell 0; have q1 := B.cell 1; have q2 := B.cell 2; have q3 := B.cell 3; have q4 := B.cell 4
    simp [go_sem, BigFrame.eval_const, BigFrame.eval_global, BigFrame.eval_func, ↓IntWalk.iteOmega, ev e27, q0, q1, q2, q3, q4]
    with_reducible rfl
  apply Build.det 29 Ext.refl (by rfl) (by rfl) rfl
  case h =>   -- 7: t29 := Op.convert 3 22 (tmp 28)
    intro a wx hE hR hF
    have e28 : a.eval (.tmp 28) = _ := hF 6 (det 28 _) (by decide) (.head _)
    simp [go_sem, BigFrame.eval_const, BigFrame.eval_global, BigFrame.eval_func, ↓IntWalk.iteOmega, ev e28, wr]
    with_reducible rfl
  apply Build.call 30 Ext.refl (by rfl) (by rfl) rfl
  case h =>
    intro a wx hE hR hF
    have e29 : a.eval (.tmp 29) = _ := hF 7 (det 29 _) (by decide) (.head _)
    simp [go_sem, BigFrame.eval_const, BigFrame.eval_global, BigFrame.eval_func, ↓IntWalk.iteOmega, ev e29]
    with_reducible exact ⟨rfl, rfl⟩
  case hc => intro wx hR; with_reducible exact HR.out wx
  apply Build.det 31 Ext.refl (by rfl) (by rfl) rfl
  case h =>   -- 9: t31 := Op.binOp BinOp.add 9 (tmp 26) (tmp 30) 9
    intro a wx hE hR hF
    have e26 : a.eval (.tmp 26) = _ := hF 4 (det 26 _) (by decide) (.tail _ (.tail _ (.tail _ (.tail _ (.head _)))))
    have e30 : a.eval (.tmp 30) = _ := hF 8 (det 30 _) (by decide) (.head _)
    simp [go_sem, BigFrame.eval_const, BigFrame.eval_global, BigFrame.eval_func, ↓IntWalk.iteOmega, ev e26, ev e30, na, nb, ng, nr]
    with_reducible rfl
  apply Build.call 32 Ext.refl (by rfl) (by rfl) rfl
  case h =>
    intro a wx hE hR hF
    have e31 : a.eval (.tmp 31) = _ := hF 9 (det 31 _) (by decide) (.head _)
    simp [go_sem, BigFrame.eval_const, BigFrame.eval_global, BigFrame.eval_func, ↓IntWalk.iteOmega, ev e31]
    with_reducible exact ⟨rfl, rfl⟩
  case hc => intro wx hR; with_reducible exact HS.out wx
  apply Build.det 2 Ext.refl (by rfl) (by rfl) rfl
  case h =>   -- 11: t2 := Op.assign (tmp 32)
    intro a wx hE hR hF
    have e32 : a.eval (.tmp 32) = _ := hF 10 (det 32 _) (by decide) (.head _)
    simp [go_sem, BigFrame.eval_const, BigFrame.eval_global, BigFrame.eval_func, ↓IntWalk.iteOmega, ev e32]
    with_reducible rfl
  apply Build.stop
  refine ⟨by kernel_rfl, .inl ⟨rfl, ?_⟩⟩
  intro a w2 hE R2 hF
  have e22 : a.eval (.tmp 22) = _ := hF 0 (det 22 _) (.tail _ (.tail _ (.tail _ (.tail _ (.tail _ (.tail _ (.tail _ (.tail _ (.tail _ (.tail _ (.tail _ (.head _))))))))))))
  have e23 : a.eval (.tmp 23) = _ := hF 1 (det 23 _) (.tail _ (.tail _ (.tail _ (.tail _ (.tail _ (.tail _ (.tail _ (.tail _ (.tail _ (.tail _ (.head _)))))))))))
  have e24 : a.eval (.tmp 24) = _ := hF 2 (det 24 _) (.tail _ (.tail _ (.tail _ (.tail _ (.tail _ (.tail _ (.tail _ (.tail _ (.tail _ (.head _))))))))))
  have e25 : a.eval (.tmp 25) = _ := hF 3 (det 25 _) (.tail _ (.tail _ (.tail _ (.tail _ (.tail _ (.tail _ (.tail _ (.tail _ (.head _)))))))))
  have e26 : a.eval (.tmp 26) = _ := hF 4 (det 26 _) (.tail _ (.tail _ (.tail _ (.tail _ (.tail _ (.tail _ (.tail _ (.head _))))))))
  have e27 : a.eval (.tmp 27) = _ := hF 5 (det 27 _) (.tail _ (.tail _ (.tail _ (.tail _ (.tail _ (.tail _ (.head _)))))))
  have e28 : a.eval (.tmp 28) = _ := hF 6 (det 28 _) (.tail _ (.tail _ (.tail _ (.tail _ (.tail _ (.head _))))))
  have e29 : a.eval (.tmp 29) = _ := hF 7 (det 29 _) (.tail _ (.tail _ (.tail _ (.tail _ (.head _)))))
  have e30 : a.eval (.tmp 30) = _ := hF 8 (det 30 _) (.tail _ (.tail _ (.tail _ (.head _))))
  have e31 : a.eval (.tmp 31) = _ := hF 9 (det 31 _) (.tail _ (.tail _ (.head _)))
  have e32 : a.eval (.tmp 32) = _ := hF 10 (det 32 _) (.tail _ (.head _))
  have e2 : a.eval (.tmp 2) = _ := hF 11 (det 2 _) (.head _)
  rw [AllEq.frame (D := [22, 23, 24, 25, 26, 27, 28, 29, 30, 31, 32, 2]) (AllEq.cons e22 (AllEq.cons e23 (AllEq.cons e24 (AllEq.cons e25 (AllEq.cons e26 (AllEq.cons e27 (AllEq.cons e28 (AllEq.cons e29 (AllEq.cons e30 (AllEq.cons e31 (AllEq.cons e32 (AllEq.cons e2 (AllEq.nil))))))))))))) hE rfl]
  clear hF hE e22 e23 e24 e25 e26 e27 e28 e29 e30 e31 e32 e2
  simp only [List.foldl_cons, List.foldl_nil, Act.put, List.setIfInBounds_toArray, List.set_cons_succ, List.set_cons_zero]
  go_wp2_with fail
  go_ret
  exact ⟨rfl, by rw [HH.out]; exact (HB0.out.trans (R1.mono (Nat.le_of_lt zA))).trans (R2.mono (Nat.le_trans (Nat.le_of_lt zA) R1.size))⟩
end Go.Proofs.Ytencbdcfcpohaaa
