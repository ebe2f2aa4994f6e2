/- tierceref05: Bytes. -/
import Derived.Test.YtencbdcfcpohaaaDoorKLeafBack16
import Derived.Test.YtencbdcfcpohaaaDoorKLeafBack02
namespace Go.Proofs.YtencbdcfcpohaaaDoor
set_option linter.unusedVariables false
set_option linter.unusedSimpArgs false
open Go.RowKit

theorem rbytes8 (n : Nat) (hn : n < 18446744073709551616) (q : ByteArray) (hq : (⟨(le n 8).toArray⟩ : ByteArray) = q) (w : World) :
    Calls Tryd.prog 12 #[.int .u64 n, .int .i64 8] w fun e w' => e = .returned (.string q) ∧ Ext w w' := by
  have := rbytes_any n (8 : Nat) w hn
  rw [show clampSize (8 : Nat) = 8 by decide, hq] at this
  exact this
def strLen : Value → Nat
  | .string b => b.size
  | _ => 0
theorem hdL_eq (lv n : Nat) : hdL lv n = [76, UInt8.ofNat lv, UInt8.ofNat n, 0] := by simp [hdL, le]
theorem mk_size (L : List UInt8) : (⟨L.toArray⟩ : ByteArray).size = L.length := List.size_toArray

set_option maxRecDepth 100000 in
set_option maxHeartbeats 4000000 in
theorem rlbytes_any (lv : Nat) (A : Option Addr) (len cap : Nat) (xs : List (Nat × Nat)) (w : World) (hlen : xs.length = len) (hlv : lv < 8) (hl15 : len ≤ 15) (hrow : Row w A 2 pairC xs) (hx : ∀ x ∈ xs, x.1 < 18446744073709551616 ∧ x.2 < 18446744073709551616) :
    Calls Tryd.prog 29 #[.agg #[.int .i64 lv, .slice A len cap]] w fun e w' => e = .returned (.string ⟨(sealL (leafL lv xs)).toArray⟩) ∧ Ext w w' := by
  have hE := Ext.alloc w (.cells #[.int .i64 lv, .slice A len cap] 60)
  have hX : Blk (w.alloc (.cells #[.int .i64 lv, .slice A len cap] 60)) w.heap.size 60 #[.int .i64 lv, .slice A len cap] := Blk.new _ _ _
  have hrow1 := hrow.ext hE
  have c1 : (lv : Int) % 256 = (lv : Int) := by omega
  have c2 : (len : Int) % 256 = (len : Int) := by omega
  have c3 : (lv : Int) = ((UInt8.ofNat lv).toNat : Int) := by simp; omega
  have c4 : (len : Int) = ((UInt8.ofNat len).toNat : Int) := by simp; omega
  obtain ⟨Q0, hQ0⟩ : ∃ Q : ByteArray, (⟨(hdL lv len).toArray⟩ : ByteArray) = Q := ⟨_, rfl⟩
  have hcv : (convert 26 9 (.slice (some ⟨w.heap.size + 1, 0, none⟩) 4 4)).run Tryd.prog ((w.alloc (.cells #[.int .i64 lv, .slice A len cap] 60)).alloc (.cells #[.int .u8 76, .int .u8 lv, .int .u8 len, .int .u8 0] 5)) = .ok (.string Q0) ((w.alloc (.cells #[.int .i64 lv, .slice A len cap] 60)).alloc (.cells #[.int .u8 76, .int .u8 lv, .int .u8 len, .int .u8 0] 5)) := by
    rw [← hQ0, hdL_eq]
    refine conv_string _ (w.heap.size + 1) 0 4 [76, UInt8.ofNat lv, UInt8.ofNat len, 0] 4 rfl (fun i hi => ?_)
    have hB : Blk ((w.alloc (.cells #[.int .i64 lv, .slice A len cap] 60)).alloc (.cells #[.int .u8 76, .int .u8 lv, .int .u8 len, .int .u8 0] 5)) (w.heap.size + 1) 5 #[.int .u8 76, .int .u8 lv, .int .u8 len, .int .u8 0] := blk_new (by simp)
    rw [Nat.zero_add]
    rcases (show i = 0 ∨ i = 1 ∨ i = 2 ∨ i = 3 by omega) with rfl | rfl | rfl | rfl
    · exact hB.cell 0
    · exact (hB.cell 1).trans (by show some (Value.int .u8 (lv : Int)) = some (.int .u8 ((UInt8.ofNat lv).toNat : Int)); rw [← c3])
    · exact (hB.cell 2).trans (by show some (Value.int .u8 (len : Int)) = some (.int .u8 ((UInt8.ofNat len).toNat : Int)); rw [← c4])
    · exact hB.cell 3
  have q0 := hX.cell 0
  have q1 := hX.cell 1
  have hQ0s : Q0.size = 4 := by rw [← hQ0, mk_size, hdL_length]
  have HE := Lib.hid hE
  have HX := Lib.hid hX
  have HQ0 := Lib.hid hQ0
  clear hE hX hrow hQ0 c3 c4
  go_enter Tryd.func29, Tryd.ntmps29
  go_upto_region 3 with fail
  have hE2 : Ext (w.alloc (.cells #[.int .i64 lv, .slice A len cap] 60)) ((w.alloc (.cells #[.int .i64 lv, .slice A len cap] 60)).alloc (.cells #[.int .u8 76, .int .u8 lv, .int .u8 len, .int .u8 0] 5)) := Ext.alloc _ _
  clear q0 q1 hcv c1 c2
  go_loopw [3, 4] (fun s i wr => ∃ (j : Nat) (Q : ByteArray), j ≤ len ∧ i = .int .i64 j ∧ s = .string Q ∧ Q.size = 4 + 16 * j ∧ Hid (Q = ⟨(hdL lv len ++ pairsL (xs.take j)).toArray⟩) ∧ Ext (w.alloc (.cells #[.int .i64 lv, .slice A len cap] 60)) wr) (fun _ i _ => len - (intOf i).toNat)
  case atStart => exact ⟨0, Q0, by omega, rfl, rfl, by omega, by show Q0 = _; rw [← HQ0.out]; simp [pairsL], hE2⟩
  case round =>
    clear hE2
    obtain ⟨j, Q, hj, rfl, rfl, hQs, HQ, hEx⟩ := hrel
    have q1 := (HX.out.ext hEx).cell 1
    by_cases hlt : j < len
    · have hjx : j < xs.length := by omega
      obtain ⟨b0, o0, rfl, hlt0, -, -⟩ := hrow1.pair_in hEx hjx
      have HC := Lib.hid (fun (W : World) (h : Ext wr W) => And.intro (hrow1.key_at (hEx.trans h) hjx) (hrow1.val_at (hEx.trans h) hjx))
      have HXX := Lib.hid (fun (W : World) (h : Ext wr W) => (HX.out.ext hEx).ext h)
      obtain ⟨hk1, hk2⟩ := hx _ (List.getElem_mem hjx)
      have hL : pairsL (xs.take (j + 1)) = pairsL (xs.take j) ++ le (keyAt xs j) 8 ++ le (valAt xs j) 8 := by
        rw [pairsL_take xs hjx]
        simp [keyAt, valAt, List.getD, hjx]
      have hk1 : keyAt xs j < 18446744073709551616 := by simpa [keyAt, List.getD, hjx] using hk1
      have hk2 : valAt xs j < 18446744073709551616 := by simpa [valAt, List.getD, hjx] using hk2
      generalize keyAt xs j = K at HC hk1 hL
      generalize valAt xs j = V at HC hk2 hL
      obtain ⟨T1, hT1⟩ : ∃ Q : ByteArray, (⟨(le K 8).toArray⟩ : ByteArray) = Q := ⟨_, rfl⟩
      obtain ⟨T2, hT2⟩ : ∃ Q : ByteArray, (⟨(le V 8).toArray⟩ : ByteArray) = Q := ⟨_, rfl⟩
      have H1 := Lib.hid (rbytes8 K hk1 T1 hT1)
      have H2 := Lib.hid (rbytes8 V hk2 T2 hT2)
      have t1 : T1.size = 8 := by rw [← hT1, mk_size, le_length]
      have t2 : T2.size = 8 := by rw [← hT2, mk_size, le_length]
      have HQ' : Hid (Q ++ T1 ++ T2 = ⟨(hdL lv len ++ pairsL (xs.take (j + 1))).toArray⟩) := by
        show Q ++ T1 ++ T2 = _
        rw [hL, HQ.out, ← hT1, ← hT2, mk_append, mk_append]
        simp
      clear hT1 hT2 hL HQ
      go_upto_region 5 with fail
      refine wp_typed (R := Ext) (w0 := wr) [[], [], [1], [], [1, 2, 3], [1, 2, 3, 4], [1, 2, 3, 4, 5], [1, 2, 3, 4, 5, 6], [0, 1, 2, 3, 4, 5, 6, 7], [], [9], [], [9, 10, 11], [9, 10, 11, 12], [9, 10, 11, 12, 13], [1, 2, 3, 4, 5, 6, 7, 9, 10, 11, 12, 13, 14], [0, 1, 2, 3, 4, 5, 6, 7, 8, 9, 10, 11, 12, 13, 14, 15], [0, 1, 2, 3, 4, 5, 6, 7, 8, 9, 10, 11, 12, 13, 14, 15, 16]] [21, 22, 23, 24, 25, 26, 27, 28, 29, 30, 31, 32, 33, 34, 35, 36, 37] Ext.refl (fun _ _ _ => Ext.trans) (Ext.drew _) (by kernel_rfl) ?_
      apply Build.det 21 Ext.refl (by rfl) (by rfl) rfl
      case h =>   -- 0: t21 := Op.move (tmp 3)
        intro ax wx hE hR hF
        have e3 : ax.eval (.tmp 3) = .string Q := hE.eval 3 (by rfl) rfl
        simp [go_sem, BigFrame.eval_const, BigFrame.eval_global, BigFrame.eval_func, ↓IntWalk.iteOmega, ev e3]
        with_reducible rfl
      apply Build.det 22 Ext.refl (by rfl) (by rfl) rfl
      case h =>   -- 1: t22 := Op.fieldAddr 60 (tmp 1) 1
        intro ax wx hE hR hF
        have e1 : ax.eval (.tmp 1) = .pointer (some ⟨w.heap.size, 0, none⟩) := hE.eval 1 (by rfl) rfl
        simp [go_sem, BigFrame.eval_const, BigFrame.eval_global, BigFrame.eval_func, ↓IntWalk.iteOmega, ev e1]
        with_reducible rfl
      apply Build.det 23 Ext.refl (by rfl) (by rfl) rfl
      case h =>   -- 2: t23 := Op.load 58 (tmp 22)
        intro ax wx hE hR hF
        have e22 : ax.eval (.tmp 22) = _ := hF 1 (det 22 _) (by decide) (.head _)
        have hX2 := HXX.out _ hR; have q0 := hX2.cell 0; have q1 := hX2.cell 1; have p1 := (HC.out _ hR).1; have p2 := (HC.out _ hR).2
        simp [go_sem, BigFrame.eval_const, BigFrame.eval_global, BigFrame.eval_func, ↓IntWalk.iteOmega, ev e22, q0, q1, p1, p2]
        with_reducible rfl
      apply Build.det 24 Ext.refl (by rfl) (by rfl) rfl
      case h =>   -- 3: t24 := Op.move (tmp 4)
        intro ax wx hE hR hF
        have e4 : ax.eval (.tmp 4) = .int .i64 j := hE.eval 4 (by rfl) rfl
        simp [go_sem, BigFrame.eval_const, BigFrame.eval_global, BigFrame.eval_func, ↓IntWalk.iteOmega, ev e4]
        with_reducible rfl
      apply Build.det 25 Ext.refl (by rfl) (by rfl) rfl
      case h =>   -- 4: t25 := Op.indexAddr 58 (tmp 23) (tmp 24)
        intro ax wx hE hR hF
        have e23 : ax.eval (.tmp 23) = _ := hF 2 (det 23 _) (by decide) (.tail _ (.head _))
        have e24 : ax.eval (.tmp 24) = _ := hF 3 (det 24 _) (by decide) (.head _)
        simp [go_sem, BigFrame.eval_const, BigFrame.eval_global, BigFrame.eval_func, ↓IntWalk.iteOmega, ev e23, ev e24]
        with_reducible rfl
      apply Build.det 26 Ext.refl (by rfl) (by rfl) rfl
      case h =>   -- 5: t26 := Op.fieldAddr 72 (tmp 25) 0
        intro ax wx hE hR hF
        have e25 : ax.eval (.tmp 25) = _ := hF 4 (det 25 _) (by decide) (.head _)
        simp [go_sem, BigFrame.eval_const, BigFrame.eval_global, BigFrame.eval_func, ↓IntWalk.iteOmega, ev e25]
        with_reducible rfl
      apply Build.det 27 Ext.refl (by rfl) (by rfl) rfl
      case h =>   -- 6: t27 := Op.load 31 (tmp 26)
        intro ax wx hE hR hF
        have e26 : ax.eval (.tmp 26) = _ := hF 5 (det 26 _) (by decide) (.head _)
        have hX2 := HXX.out _ hR; have q0 := hX2.cell 0; have q1 := hX2.cell 1; have p1 := (HC.out _ hR).1; have p2 := (HC.out _ hR).2
        simp [go_sem, BigFrame.eval_const, BigFrame.eval_global, BigFrame.eval_func, ↓IntWalk.iteOmega, ev e26, q0, q1, p1, p2]
        with_reducible rfl
      apply Build.call 28 Ext.refl (by rfl) (by rfl) rfl
      case h =>
        intro ax wx hE hR hF
        have e27 : ax.eval (.tmp 27) = _ := hF 6 (det 27 _) (by decide) (.head _)
        simp [go_sem, BigFrame.eval_const, BigFrame.eval_global, BigFrame.eval_func, ↓IntWalk.iteOmega, ev e27]
        with_reducible exact ⟨rfl, rfl⟩
      case hc => intro wx hR; with_reducible exact H1.out wx
      apply Build.det 29 Ext.refl (by rfl) (by rfl) rfl
      case h =>   -- 8: t29 := Op.binOp BinOp.add 9 (tmp 21) (tmp 28) 9
        intro ax wx hE hR hF
        have e21 : ax.eval (.tmp 21) = _ := hF 0 (det 21 _) (by decide) (.tail _ (.tail _ (.tail _ (.tail _ (.tail _ (.tail _ (.tail _ (.head _))))))))
        have e28 : ax.eval (.tmp 28) = _ := hF 7 (det 28 _) (by decide) (.head _)
        simp [go_sem, BigFrame.eval_const, BigFrame.eval_global, BigFrame.eval_func, ↓IntWalk.iteOmega, ev e21, ev e28, hQs, t1]
        with_reducible rfl
      apply Build.det 30 Ext.refl (by rfl) (by rfl) rfl
      case h =>   -- 9: t30 := Op.fieldAddr 60 (tmp 1) 1
        intro ax wx hE hR hF
        have e1 : ax.eval (.tmp 1) = .pointer (some ⟨w.heap.size, 0, none⟩) := hE.eval 1 (by rfl) rfl
        simp [go_sem, BigFrame.eval_const, BigFrame.eval_global, BigFrame.eval_func, ↓IntWalk.iteOmega, ev e1]
        with_reducible rfl
      apply Build.det 31 Ext.refl (by rfl) (by rfl) rfl
      case h =>   -- 10: t31 := Op.load 58 (tmp 30)
        intro ax wx hE hR hF
        have e30 : ax.eval (.tmp 30) = _ := hF 9 (det 30 _) (by decide) (.head _)
        have hX2 := HXX.out _ hR; have q0 := hX2.cell 0; have q1 := hX2.cell 1; have p1 := (HC.out _ hR).1; have p2 := (HC.out _ hR).2
        simp [go_sem, BigFrame.eval_const, BigFrame.eval_global, BigFrame.eval_func, ↓IntWalk.iteOmega, ev e30, q0, q1, p1, p2]
        with_reducible rfl
      apply Build.det 32 Ext.refl (by rfl) (by rfl) rfl
      case h =>   -- 11: t32 := Op.move (tmp 4)
        intro ax wx hE hR hF
        have e4 : ax.eval (.tmp 4) = .int .i64 j := hE.eval 4 (by rfl) rfl
        simp [go_sem, BigFrame.eval_const, BigFrame.eval_global, BigFrame.eval_func, ↓IntWalk.iteOmega, ev e4]
        with_reducible rfl
      apply Build.det 33 Ext.refl (by rfl) (by rfl) rfl
      case h =>   -- 12: t33 := Op.indexAddr 58 (tmp 31) (tmp 32)
        intro ax wx hE hR hF
        have e31 : ax.eval (.tmp 31) = _ := hF 10 (det 31 _) (by decide) (.tail _ (.head _))
        have e32 : ax.eval (.tmp 32) = _ := hF 11 (det 32 _) (by decide) (.head _)
        simp [go_sem, BigFrame.eval_const, BigFrame.eval_global, BigFrame.eval_func, ↓IntWalk.iteOmega, ev e31, ev e32]
        with_reducible rfl
      apply Build.det 34 Ext.refl (by rfl) (by rfl) rfl
      case h =>   -- 13: t34 := Op.fieldAddr 72 (tmp 33) 1
        intro ax wx hE hR hF
        have e33 : ax.eval (.tmp 33) = _ := hF 12 (det 33 _) (by decide) (.head _)
        simp [go_sem, BigFrame.eval_const, BigFrame.eval_global, BigFrame.eval_func, ↓IntWalk.iteOmega, ev e33]
        with_reducible rfl
      apply Build.det 35 Ext.refl (by rfl) (by rfl) rfl
      case h =>   -- 14: t35 := Op.load 31 (tmp 34)
        intro ax wx hE hR hF
        have e34 : ax.eval (.tmp 34) = _ := hF 13 (det 34 _) (by decide) (.head _)
        have hX2 := HXX.out _ hR; have q0 := hX2.cell 0; have q1 := hX2.cell 1; have p1 := (HC.out _ hR).1; have p2 := (HC.out _ hR).2
        simp [go_sem, BigFrame.eval_const, BigFrame.eval_global, BigFrame.eval_func, ↓IntWalk.iteOmega, ev e34, q0, q1, p1, p2]
        with_reducible rfl
      apply Build.call 36 Ext.refl (by rfl) (by rfl) rfl
      case h =>
        intro ax wx hE hR hF
        have e35 : ax.eval (.tmp 35) = _ := hF 14 (det 35 _) (by decide) (.head _)
        simp [go_sem, BigFrame.eval_const, BigFrame.eval_global, BigFrame.eval_func, ↓IntWalk.iteOmega, ev e35]
        with_reducible exact ⟨rfl, rfl⟩
      case hc => intro wx hR; with_reducible exact H2.out wx
      apply Build.det 37 Ext.refl (by rfl) (by rfl) rfl
      case h =>   -- 16: t37 := Op.binOp BinOp.add 9 (tmp 29) (tmp 36) 9
        intro ax wx hE hR hF
        have e29 : ax.eval (.tmp 29) = _ := hF 8 (det 29 _) (by decide) (.tail _ (.tail _ (.tail _ (.tail _ (.tail _ (.tail _ (.tail _ (.head _))))))))
        have e36 : ax.eval (.tmp 36) = _ := hF 15 (det 36 _) (by decide) (.head _)
        simp [go_sem, BigFrame.eval_const, BigFrame.eval_global, BigFrame.eval_func, ↓IntWalk.iteOmega, ev e29, ev e36, hQs, t1, t2]
        with_reducible rfl
      apply Build.stop
      refine ⟨by kernel_rfl, .inr ⟨by kernel_rfl, _, rfl, rfl, ?_⟩⟩
      intro ax w2 hE R2 hF
      have e21 : ax.eval (.tmp 21) = _ := hF 0 (det 21 _) (.tail _ (.tail _ (.tail _ (.tail _ (.tail _ (.tail _ (.tail _ (.tail _ (.tail _ (.tail _ (.tail _ (.tail _ (.tail _ (.tail _ (.tail _ (.tail _ (.head _)))))))))))))))))
      have e22 : ax.eval (.tmp 22) = _ := hF 1 (det 22 _) (.tail _ (.tail _ (.tail _ (.tail _ (.tail _ (.tail _ (.tail _ (.tail _ (.tail _ (.tail _ (.tail _ (.tail _ (.tail _ (.tail _ (.tail _ (.head _))))))))))))))))
      have e23 : ax.eval (.tmp 23) = _ := hF 2 (det 23 _) (.tail _ (.tail _ (.tail _ (.tail _ (.tail _ (.tail _ (.tail _ (.tail _ (.tail _ (.tail _ (.tail _ (.tail _ (.tail _ (.tail _ (.head _)))))))))))))))
      have e24 : ax.eval (.tmp 24) = _ := hF 3 (det 24 _) (.tail _ (.tail _ (.tail _ (.tail _ (.tail _ (.tail _ (.tail _ (.tail _ (.tail _ (.tail _ (.tail _ (.tail _ (.tail _ (.head _))))))))))))))
      have e25 : ax.eval (.tmp 25) = _ := hF 4 (det 25 _) (.tail _ (.tail _ (.tail _ (.tail _ (.tail _ (.tail _ (.tail _ (.tail _ (.tail _ (.tail _ (.tail _ (.tail _ (.head _)))))))))))))
      have e26 : ax.eval (.tmp 26) = _ := hF 5 (det 26 _) (.tail _ (.tail _ (.tail _ (.tail _ (.tail _ (.tail _ (.tail _ (.tail _ (.tail _ (.tail _ (.tail _ (.head _))))))))))))
      have e27 : ax.eval (.tmp 27) = _ := hF 6 (det 27 _) (.tail _ (.tail _ (.tail _ (.tail _ (.tail _ (.tail _ (.tail _ (.tail _ (.tail _ (.tail _ (.head _)))))))))))
      have e28 : ax.eval (.tmp 28) = _ := hF 7 (det 28 _) (.tail _ (.tail _ (.tail _ (.tail _ (.tail _ (.tail _ (.tail _ (.tail _ (.tail _ (.head _))))))))))
      have e29 : ax.eval (.tmp 29) = _ := hF 8 (det 29 _) (.tail _ (.tail _ (.tail _ (.tail _ (.tail _ (.tail _ (.tail _ (.tail _ (.head _)))))))))
      have e30 : ax.eval (.tmp 30) = _ := hF 9 (det 30 _) (.tail _ (.tail _ (.tail _ (.tail _ (.tail _ (.tail _ (.tail _ (.head _))))))))
      have e31 : ax.eval (.tmp 31) = _ := hF 10 (det 31 _) (.tail _ (.tail _ (.tail _ (.tail _ (.tail _ (.tail _ (.head _)))))))
      have e32 : ax.eval (.tmp 32) = _ := hF 11 (det 32 _) (.tail _ (.tail _ (.tail _ (.tail _ (.tail _ (.head _))))))
      have e33 : ax.eval (.tmp 33) = _ := hF 12 (det 33 _) (.tail _ (.tail _ (.tail _ (.tail _ (.head _)))))
      have e34 : ax.eval (.tmp 34) = _ := hF 13 (det 34 _) (.tail _ (.tail _ (.tail _ (.head _))))
      have e35 : ax.eval (.tmp 35) = _ := hF 14 (det 35 _) (.tail _ (.tail _ (.head _)))
      have e36 : ax.eval (.tmp 36) = _ := hF 15 (det 36 _) (.tail _ (.head _))
      have e37 : ax.eval (.tmp 37) = _ := hF 16 (det 37 _) (.head _)
      rw [AllEq.frame (D := [21, 22, 23, 24, 25, 26, 27, 28, 29, 30, 31, 32, 33, 34, 35, 36, 37]) (AllEq.cons e21 (AllEq.cons e22 (AllEq.cons e23 (AllEq.cons e24 (AllEq.cons e25 (AllEq.cons e26 (AllEq.cons e27 (AllEq.cons e28 (AllEq.cons e29 (AllEq.cons e30 (AllEq.cons e31 (AllEq.cons e32 (AllEq.cons e33 (AllEq.cons e34 (AllEq.cons e35 (AllEq.cons e36 (AllEq.cons e37 (AllEq.nil)))))))))))))))))) hE rfl]
      clear hF hE e21 e22 e23 e24 e25 e26 e27 e28 e29 e30 e31 e32 e33 e34 e35 e36 e37
      simp only [List.foldl_cons, List.foldl_nil, Act.put, List.setIfInBounds_toArray, List.set_cons_succ, List.set_cons_zero]
      refine wp_of_value (by simp [go_sem]; exact ⟨rfl, rfl⟩) ?_
      have hEx := hEx.trans R2
      go_wp2_with fail
      go_roundw
      case rel => exact ⟨j + 1, _, by omega, by go_num, rfl, by rw [ByteArray.size_append, ByteArray.size_append]; omega, HQ', hEx⟩
      case measure => simp [intOf]; omega
    · obtain rfl : j = len := by omega
      have hfin : hdL lv j ++ pairsL (xs.take j) = hdL lv j ++ pairsL xs ++ List.replicate 0 0 := by rw [List.take_of_length_le (by omega)]; simp
      have HQ : Hid (Q = ⟨(hdL lv j ++ pairsL xs ++ List.replicate 0 0).toArray⟩) := by rw [← hfin]; exact HQ
      clear hfin
      go_upto_region 6 with fail
      go_loopw [3] (fun s wr => ∃ (k : Nat) (Q : ByteArray), s = .string Q ∧ Q.size = 4 + 16 * j + k ∧ 4 + 16 * j + k ≤ 252 ∧ Hid (Q = ⟨(hdL lv j ++ pairsL xs ++ List.replicate k 0).toArray⟩) ∧ Ext (w.alloc (.cells #[.int .i64 lv, .slice A j cap] 60)) wr) (fun s _ => 252 - strLen s)
      case atStart => exact ⟨0, Q, rfl, by omega, by omega, HQ, hEx⟩
      case round =>
        clear HQ q1 hEx hQs
        obtain ⟨k, Q, rfl, hQs, hk, HQ, hEx⟩ := hrel
        by_cases h252 : Q.size < 252
        · have hd : decide ((Q.size : Int) < 252) = true := by rw [decide_eq_true_iff]; omega
          have HQ' : Hid (Q ++ ⟨#[0]⟩ = ⟨(hdL lv j ++ pairsL xs ++ List.replicate (k + 1) 0).toArray⟩) := by
            show Q ++ ⟨[0].toArray⟩ = _
            rw [HQ.out, mk_append, List.replicate_succ']
            simp
          have hz1 : (⟨#[0]⟩ : ByteArray).size = 1 := rfl
          go_wp2_with fail
          go_roundw
          case rel => exact ⟨k + 1, _, rfl, by rw [ByteArray.size_append, hz1]; omega, by omega, HQ', hEx⟩
          case measure => simp [strLen, ByteArray.size_append]; omega
        · have hd : decide ((Q.size : Int) < 252) = false := by rw [decide_eq_false_iff_not]; omega
          have hkk : k = 248 - 16 * xs.length := by omega
          have hQl : Q.data.toList = leafL lv xs := by
            rw [HQ.out, leafL_eq, hkk, hlen]
          obtain ⟨q, hq⟩ : ∃ q : ByteArray, (⟨(sealL (leafL lv xs)).toArray⟩ : ByteArray) = q := ⟨_, rfl⟩
          have HS := Lib.hid (fun W => rseal_any Q q W (by omega) (by rw [hQl]; exact hq))
          have Hq := Lib.hid hq
          clear hq hQl hkk HQ
          go_wp2_with fail
          refine (HS.out _).mono ?_
          rintro e w2 ⟨rfl, R2⟩
          have hEx := HE.out.trans (hEx.trans R2)
          clear R2 HS
          go_wp2_with fail
          go_ret
          exact ⟨by rw [Hq.out]; rfl, hEx⟩
end Go.Proofs.YtencbdcfcpohaaaDoor

/- The walk of tierceref01.Number. -/
namespace Go.Proofs.YtencbdcfcpohaaaDoor
set_option linter.unusedVariables false
set_option linter.unusedSimpArgs false
open Go.RowKit

theorem numL_drop (l : List UInt8) (k : Nat) (h : k < l.length) : numL (l.drop k) = (l.getD k 0).toNat + 256 * numL (l.drop (k + 1)) := by
  rw [List.drop_eq_getElem_cons h, numL]
  simp [List.getD, List.getElem?_eq_getElem h]

set_option maxRecDepth 10000 in
set_option maxHeartbeats 1000000 in
theorem number_any (s : ByteArray) (w : World) (hs : s.size ≤ 8) :
    Calls Tryd.prog 19 #[.string s] w fun e w' => e = .returned (.int .u64 (numL s.data.toList)) ∧ w = w' := by
  have hsl : s.data.toList.length = s.size := by simp
  go_enter Tryd.func19, Tryd.ntmps19
  go_wp2_with fail
  go_loop [3, 4] (fun x i => ∃ (k X : Nat), k ≤ s.size ∧ i = .int .i64 ((k : Int) - 1) ∧ x = .int .u64 X ∧ Hid (X = numL (s.data.toList.drop k))) (fun _ i => (intOf i + 1).toNat)
  case atStart => exact ⟨s.size, 0, by omega, rfl, rfl, by show 0 = _; rw [List.drop_of_length_le (by omega)]; rfl⟩
  case round =>
    obtain ⟨k, X, hk, rfl, rfl, HX⟩ := hrel
    by_cases hlt : 0 < k
    · obtain ⟨j, rfl⟩ : ∃ j, k = j + 1 := ⟨k - 1, by omega⟩
      have hj : j < s.size := by omega
      have hd := numL_drop s.data.toList j (by omega)
      have hl := numL_lt (s.data.toList.drop (j + 1))
      have hl2 := numL_lt (s.data.toList.drop j)
      rw [← HX.out] at hd hl
      rw [List.length_drop, hsl] at hl hl2
      have hp : 256 ^ (s.size - j) ≤ 256 ^ 8 := Nat.pow_le_pow_right (by decide) (by omega)
      simp only [Nat.reducePow] at hp
      rw [hd] at hl2
      have hb := index_byte s j hj
      have hx : ((j + 1 : Nat) : Int) - 1 = (j : Int) := by omega
      rw [hx]
      rw [← hb] at hd hl2
      have HD := Lib.hid hd
      have hbound : (s[j]'hj).toNat + 256 * X < 18446744073709551616 := by omega
      clear hl hl2 hd hp hb hx
      go_wp2_with fail
      go_round
      case rel => exact ⟨j, (s[j]'hj).toNat + 256 * X, by omega, by first | rfl | go_num, by first | rfl | go_num, by show _ = _; rw [HD.out]⟩
      case measure => simp [intOf]
    · obtain rfl : k = 0 := by omega
      go_wp2_with fail
      go_ret
      exact ⟨ret_int (by rw [HX.out, List.drop_zero]), rfl⟩
end Go.Proofs.YtencbdcfcpohaaaDoor
