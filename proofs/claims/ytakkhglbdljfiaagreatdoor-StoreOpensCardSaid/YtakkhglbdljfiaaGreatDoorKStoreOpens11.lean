/- tierceref05: Bytes. -/
import Derived.Test.YtakkhglbdljfiaaGreatDoorKStoreOpens10
import Derived.Test.YtakkhglbdljfiaaGreatDoorKStoreOpens08
namespace Go.Proofs.YtakkhglbdljfiaaGreatDoor
attribute [local simp] BigFrame.eval_const BigFrame.eval_global BigFrame.eval_func
set_option linter.unusedVariables false
set_option linter.unusedSimpArgs false
open Go.RowKit

theorem rbytes8 (n : Nat) (hn : n < 18446744073709551616) (q : ByteArray) (hq : (⟨(le n 8).toArray⟩ : ByteArray) = q) (w : World) :
    Calls Tryz.prog 70 #[.int .u64 n, .int .i64 8] w fun e w' => e = .returned (.string q) ∧ Ext w w' := by
  have := Z3z n (8 : Nat) w hn
  rw [show clampSize (8 : Nat) = 8 by decide, hq] at this
  exact this
def strLnL : Value → Nat
  | .string b => b.size
  | _ => 0
theorem hdL_eq (lv n : Nat) : hdL lv n = [76, UInt8.ofNat lv, UInt8.ofNat n, 0] := by simp [hdL, le]
theorem mk_size (L : List UInt8) : (⟨L.toArray⟩ : ByteArray).size = L.length := List.size_toArray

set_option maxRecDepth 100000 in
set_option maxHeartbeats 4000000 in
theorem Z3a (lv : Nat) (A : Option Addr) (len cap : Nat) (xs : List (Nat × Nat)) (w : World) (hlen : xs.length = len) (hlv : lv < 8) (hl15 : len ≤ 15) (hrow : Row w A 2 pairC xs) (hx : ∀ x ∈ xs, x.1 < 18446744073709551616 ∧ x.2 < 18446744073709551616) :
    Calls Tryz.prog 68 #[.agg #[.int .i64 lv, .slice A len cap]] w fun e w' => e = .returned (.string ⟨(sealL (leafL lv xs)).toArray⟩) ∧ Ext w w' := by
  have hE := Ext.alloc w (.cells #[.int .i64 lv, .slice A len cap] 47)
  have hX : Blk (w.alloc (.cells #[.int .i64 lv, .slice A len cap] 47)) w.heap.size 47 #[.int .i64 lv, .slice A len cap] := Blk.new _ _ _
  have hrow1 := hrow.ext hE
  have c1 : (lv : Int) % 256 = (lv : Int) := by omega
  have c2 : (len : Int) % 256 = (len : Int) := by omega
  have c3 : (lv : Int) = ((UInt8.ofNat lv).toNat : Int) := by simp; omega
  have c4 : (len : Int) = ((UInt8.ofNat len).toNat : Int) := by simp; omega
  obtain ⟨Q0, hQ0⟩ : ∃ Q : ByteArray, (⟨(hdL lv len).toArray⟩ : ByteArray) = Q := ⟨_, rfl⟩
  have hcv : (convert 81 9 (.slice (some ⟨w.heap.size + 1, 0, none⟩) 4 4)).run Tryz.prog ((w.alloc (.cells #[.int .i64 lv, .slice A len cap] 47)).alloc (.cells #[.int .u8 76, .int .u8 lv, .int .u8 len, .int .u8 0] 5)) = .ok (.string Q0) ((w.alloc (.cells #[.int .i64 lv, .slice A len cap] 47)).alloc (.cells #[.int .u8 76, .int .u8 lv, .int .u8 len, .int .u8 0] 5)) := by
    rw [← hQ0, hdL_eq]
    refine Z21 _ (w.heap.size + 1) 0 4 [76, UInt8.ofNat lv, UInt8.ofNat len, 0] 4 rfl (fun i hi => ?_)
    have hB : Blk ((w.alloc (.cells #[.int .i64 lv, .slice A len cap] 47)).alloc (.cells #[.int .u8 76, .int .u8 lv, .int .u8 len, .int .u8 0] 5)) (w.heap.size + 1) 5 #[.int .u8 76, .int .u8 lv, .int .u8 len, .int .u8 0] := blk_new (by simp)
    rw [Nat.zero_add]
    rcases (show i = 0 ∨ i = 1 ∨ i = 2 ∨ i = 3 by omega) with rfl | rfl | rfl | rfl
    · exact hB.cell 0
    · exact (hB.cell 1).trans (by show some (Value.int .u8 (lv : Int)) = some (.int .u8 ((UInt8.ofNat lv).toNat : Int)); rw [← c3])
    · exact (hB.cell 2).trans (by show some (Value.int .u8 (len : Int)) = some (.int .u8 ((UInt8.ofNat len).toNat : Int)); rw [← c4])
    · exact hB.cell 3
  have q0 := hX.cell 0
  have q1 := hX.cell 1
  have hQ0s : Q0.size = 4 := by rw [← hQ0, mk_size, Z2d]
  have HE := Lib.hid hE
  have HX := Lib.hid hX
  have HQ0 := Lib.hid hQ0
  clear hE hX hrow hQ0 c3 c4
  go_enter Tryz.func68, Tryz.ntmps68
  go_upto_region 3 with fail
  have hE2 : Ext (w.alloc (.cells #[.int .i64 lv, .slice A len cap] 47)) ((w.alloc (.cells #[.int .i64 lv, .slice A len cap] 47)).alloc (.cells #[.int .u8 76, .int .u8 lv, .int .u8 len, .int .u8 0] 5)) := Ext.alloc _ _
  clear q0 q1 hcv c1 c2
  go_loopw [3, 4] (fun s i wr => ∃ (j : Nat) (Q : ByteArray), j ≤ len ∧ i = .int .i64 j ∧ s = .string Q ∧ Q.size = 4 + 16 * j ∧ Hid (Q = ⟨(hdL lv len ++ pairsL (xs.take j)).toArray⟩) ∧ Ext (w.alloc (.cells #[.int .i64 lv, .slice A len cap] 47)) wr) (fun _ i _ => len - (intOf i).toNat)
  case atStart => exact ⟨0, Q0, by omega, rfl, rfl, by omega, by show Q0 = _; rw [← HQ0.out]; simp [pairsL], hE2⟩
  case round =>
    clear hE2
    obtain ⟨j, Q, hj, rfl, rfl, hQs, HQ, hEx⟩ := hrel
    have q1 := (HX.out.ext hEx).cell 1
    by_cases hlt : j < len
    · have hjx : j < xs.length := by omega
      obtain ⟨b0, o0, rfl, hlt0, -, -⟩ := hrow1.pair_in hEx hjx
      have HC := Lib.hid (fun (W : World) (h : Ext wr W) => And.intro (hrow1.key_at (hEx.trans h) hjx) (hrow1.val_at (hEx.trans h) hjx))
      have HXX := Lib.hid (fun (W : World) (h : Ext wr W) => (HX.out.ext hEx).ext h)
      obtain ⟨hk1, hk2⟩ := hx _ (List.getElem_mem hjx)
      have hL : pairsL (xs.take (j + 1)) = pairsL (xs.take j) ++ le (keyAt xs j) 8 ++ le (valAt xs j) 8 := by
        rw [Z54 xs hjx]
        simp [keyAt, valAt, List.getD, hjx]
      have hk1 : keyAt xs j < 18446744073709551616 := by simpa [keyAt, List.getD, hjx] using hk1
      have hk2 : valAt xs j < 18446744073709551616 := by simpa [valAt, List.getD, hjx] using hk2
      generalize keyAt xs j = K at HC hk1 hL
      generalize valAt xs j = V at HC hk2 hL
      obtain ⟨T1, hT1⟩ : ∃ Q : ByteArray, (⟨(le K 8).toArray⟩ : ByteArray) = Q := ⟨_, rfl⟩
      obtain ⟨T2, hT2⟩ : ∃ Q : ByteArray, (⟨(le V 8).toArray⟩ : ByteArray) = Q := ⟨_, rfl⟩
      have H1 := Lib.hid (rbytes8 K hk1 T1 hT1)
      have H2 := Lib.hid (rbytes8 V hk2 T2 hT2)
      have t1 : T1.size = 8 := by rw [← hT1, mk_size, Z0c]
      have t2 : T2.size = 8 := by rw [← hT2, mk_size, Z0c]
      have HQ' : Hid (Q ++ T1 ++ T2 = ⟨(hdL lv len ++ pairsL (xs.take (j + 1))).toArray⟩) := by
        show Q ++ T1 ++ T2 = _
        rw [hL, HQ.out, ← hT1, ← hT2, Z5b, Z5b]
        simp
      clear hT1 hT2 hL HQ
      go_upto_region 5 with fail
      refine Z0n (R := Ext) (w0 := wr) [[], [], [1], [], [1, 2, 3], [1, 2, 3, 4], [1, 2, 3, 4, 5], [1, 2, 3, 4, 5, 6], [0, 1, 2, 3, 4, 5, 6, 7], [], [9], [], [9, 10, 11], [9, 10, 11, 12], [9, 10, 11, 12, 13], [1, 2, 3, 4, 5, 6, 7, 9, 10, 11, 12, 13, 14], [0, 1, 2, 3, 4, 5, 6, 7, 8, 9, 10, 11, 12, 13, 14, 15], [0, 1, 2, 3, 4, 5, 6, 7, 8, 9, 10, 11, 12, 13, 14, 15, 16]] [21, 22, 23, 24, 25, 26, 27, 28, 29, 30, 31, 32, 33, 34, 35, 36, 37] Ext.refl (fun _ _ _ => Ext.trans) (Ext.drew _) (by kernel_rfl) ?_
      apply Build.det 21 Ext.refl (by rfl) (by rfl) rfl
      case h =>
        intro ax wx hE hR hF
        have e3 : ax.eval (.tmp 3) = .string Q := hE.eval 3 (by rfl) rfl
        simp [go_sem, ↓IntWalk.iteOmega, ev e3]
        with_reducible rfl
      apply Build.det 22 Ext.refl (by rfl) (by rfl) rfl
      case h =>
        intro ax wx hE hR hF
        have e1 : ax.eval (.tmp 1) = .pointer (some ⟨w.heap.size, 0, none⟩) := hE.eval 1 (by rfl) rfl
        simp [go_sem, ↓IntWalk.iteOmega, ev e1]
        with_reducible rfl
      apply Build.det 23 Ext.refl (by rfl) (by rfl) rfl
      case h =>
        intro ax wx hE hR hF
        have e22 := hF 1 (det 22 _) (by decide) (.head _)
        have hX2 := HXX.out _ hR; have q0 := hX2.cell 0; have q1 := hX2.cell 1; have p1 := (HC.out _ hR).1; have p2 := (HC.out _ hR).2
        simp [go_sem, ↓IntWalk.iteOmega, ev e22, q0, q1, p1, p2]
        with_reducible rfl
      apply Build.det 24 Ext.refl (by rfl) (by rfl) rfl
      case h =>
        intro ax wx hE hR hF
        have e4 : ax.eval (.tmp 4) = .int .i64 j := hE.eval 4 (by rfl) rfl
        simp [go_sem, ↓IntWalk.iteOmega, ev e4]
        with_reducible rfl
      apply Build.det 25 Ext.refl (by rfl) (by rfl) rfl
      case h =>
        intro ax wx hE hR hF
        have e23 := hF 2 (det 23 _) (by decide) (.tail _ (.head _))
        have e24 := hF 3 (det 24 _) (by decide) (.head _)
        simp [go_sem, ↓IntWalk.iteOmega, ev e23, ev e24]
        with_reducible rfl
      apply Build.det 26 Ext.refl (by rfl) (by rfl) rfl
      case h =>
        intro ax wx hE hR hF
        have e25 := hF 4 (det 25 _) (by decide) (.head _)
        simp [go_sem, ↓IntWalk.iteOmega, ev e25]
        with_reducible rfl
      apply Build.det 27 Ext.refl (by rfl) (by rfl) rfl
      case h =>
        intro ax wx hE hR hF
        have e26 := hF 5 (det 26 _) (by decide) (.head _)
        have hX2 := HXX.out _ hR; have q0 := hX2.cell 0; have q1 := hX2.cell 1; have p1 := (HC.out _ hR).1; have p2 := (HC.out _ hR).2
        simp [go_sem, ↓IntWalk.iteOmega, ev e26, q0, q1, p1, p2]
        with_reducible rfl
      apply Build.call 28 Ext.refl (by rfl) (by rfl) rfl
      case h =>
        intro ax wx hE hR hF
        have e27 := hF 6 (det 27 _) (by decide) (.head _)
        simp [go_sem, ↓IntWalk.iteOmega, ev e27]
        with_reducible exact ⟨rfl, rfl⟩
      case hc => intro wx hR; with_reducible exact H1.out wx
      apply Build.det 29 Ext.refl (by rfl) (by rfl) rfl
      case h =>
        intro ax wx hE hR hF
        have e21 := hF 0 (det 21 _) (by decide) (.tail _ (.tail _ (.tail _ (.tail _ (.tail _ (.tail _ (.tail _ (.head _))))))))
        have e28 := hF 7 (det 28 _) (by decide) (.head _)
        simp [go_sem, ↓IntWalk.iteOmega, ev e21, ev e28, hQs, t1]
        with_reducible rfl
      apply Build.det 30 Ext.refl (by rfl) (by rfl) rfl
      case h =>
        intro ax wx hE hR hF
        have e1 : ax.eval (.tmp 1) = .pointer (some ⟨w.heap.size, 0, none⟩) := hE.eval 1 (by rfl) rfl
        simp [go_sem, ↓IntWalk.iteOmega, ev e1]
        with_reducible rfl
      apply Build.det 31 Ext.refl (by rfl) (by rfl) rfl
      case h =>
        intro ax wx hE hR hF
        have e30 := hF 9 (det 30 _) (by decide) (.head _)
        have hX2 := HXX.out _ hR; have q0 := hX2.cell 0; have q1 := hX2.cell 1; have p1 := (HC.out _ hR).1; have p2 := (HC.out _ hR).2
        simp [go_sem, ↓IntWalk.iteOmega, ev e30, q0, q1, p1, p2]
        with_reducible rfl
      apply Build.det 32 Ext.refl (by rfl) (by rfl) rfl
      case h =>
        intro ax wx hE hR hF
        have e4 : ax.eval (.tmp 4) = .int .i64 j := hE.eval 4 (by rfl) rfl
        simp [go_sem, ↓IntWalk.iteOmega, ev e4]
        with_reducible rfl
      apply Build.det 33 Ext.refl (by rfl) (by rfl) rfl
      case h =>
        intro ax wx hE hR hF
        have e31 := hF 10 (det 31 _) (by decide) (.tail _ (.head _))
        have e32 := hF 11 (det 32 _) (by decide) (.head _)
        simp [go_sem, ↓IntWalk.iteOmega, ev e31, ev e32]
        with_reducible rfl
      apply Build.det 34 Ext.refl (by rfl) (by rfl) rfl
      case h =>
        intro ax wx hE hR hF
        have e33 := hF 12 (det 33 _) (by decide) (.head _)
        simp [go_sem, ↓IntWalk.iteOmega, ev e33]
        with_reducible rfl
      apply Build.det 35 Ext.refl (by rfl) (by rfl) rfl
      case h =>
        intro ax wx hE hR hF
        have e34 := hF 13 (det 34 _) (by decide) (.head _)
        have hX2 := HXX.out _ hR; have q0 := hX2.cell 0; have q1 := hX2.cell 1; have p1 := (HC.out _ hR).1; have p2 := (HC.out _ hR).2
        simp [go_sem, ↓IntWalk.iteOmega, ev e34, q0, q1, p1, p2]
        with_reducible rfl
      apply Build.call 36 Ext.refl (by rfl) (by rfl) rfl
      case h =>
        intro ax wx hE hR hF
        have e35 := hF 14 (det 35 _) (by decide) (.head _)
        simp [go_sem, ↓IntWalk.iteOmega, ev e35]
        with_reducible exact ⟨rfl, rfl⟩
      case hc => intro wx hR; with_reducible exact H2.out wx
      apply Build.det 37 Ext.refl (by rfl) (by rfl) rfl
      case h =>
        intro ax wx hE hR hF
        have e29 := hF 8 (det 29 _) (by decide) (.tail _ (.tail _ (.tail _ (.tail _ (.tail _ (.tail _ (.tail _ (.head _))))))))
        have e36 := hF 15 (det 36 _) (by decide) (.head _)
        simp [go_sem, ↓IntWalk.iteOmega, ev e29, ev e36, hQs, t1, t2]
        with_reducible rfl
      apply Build.stop
      refine ⟨by kernel_rfl, .inr ⟨by kernel_rfl, _, rfl, rfl, ?_⟩⟩
      intro ax w2 hE R2 hF
      have e21 := hF 0 (det 21 _) (.tail _ (.tail _ (.tail _ (.tail _ (.tail _ (.tail _ (.tail _ (.tail _ (.tail _ (.tail _ (.tail _ (.tail _ (.tail _ (.tail _ (.tail _ (.tail _ (.head _)))))))))))))))))
      have e22 := hF 1 (det 22 _) (.tail _ (.tail _ (.tail _ (.tail _ (.tail _ (.tail _ (.tail _ (.tail _ (.tail _ (.tail _ (.tail _ (.tail _ (.tail _ (.tail _ (.tail _ (.head _))))))))))))))))
      have e23 := hF 2 (det 23 _) (.tail _ (.tail _ (.tail _ (.tail _ (.tail _ (.tail _ (.tail _ (.tail _ (.tail _ (.tail _ (.tail _ (.tail _ (.tail _ (.tail _ (.head _)))))))))))))))
      have e24 := hF 3 (det 24 _) (.tail _ (.tail _ (.tail _ (.tail _ (.tail _ (.tail _ (.tail _ (.tail _ (.tail _ (.tail _ (.tail _ (.tail _ (.tail _ (.head _))))))))))))))
      have e25 := hF 4 (det 25 _) (.tail _ (.tail _ (.tail _ (.tail _ (.tail _ (.tail _ (.tail _ (.tail _ (.tail _ (.tail _ (.tail _ (.tail _ (.head _)))))))))))))
      have e26 := hF 5 (det 26 _) (.tail _ (.tail _ (.tail _ (.tail _ (.tail _ (.tail _ (.tail _ (.tail _ (.tail _ (.tail _ (.tail _ (.head _))))))))))))
      have e27 := hF 6 (det 27 _) (.tail _ (.tail _ (.tail _ (.tail _ (.tail _ (.tail _ (.tail _ (.tail _ (.tail _ (.tail _ (.head _)))))))))))
      have e28 := hF 7 (det 28 _) (.tail _ (.tail _ (.tail _ (.tail _ (.tail _ (.tail _ (.tail _ (.tail _ (.tail _ (.head _))))))))))
      have e29 := hF 8 (det 29 _) (.tail _ (.tail _ (.tail _ (.tail _ (.tail _ (.tail _ (.tail _ (.tail _ (.head _)))))))))
      have e30 := hF 9 (det 30 _) (.tail _ (.tail _ (.tail _ (.tail _ (.tail _ (.tail _ (.tail _ (.head _))))))))
      have e31 := hF 10 (det 31 _) (.tail _ (.tail _ (.tail _ (.tail _ (.tail _ (.tail _ (.head _)))))))
      have e32 := hF 11 (det 32 _) (.tail _ (.tail _ (.tail _ (.tail _ (.tail _ (.head _))))))
      have e33 := hF 12 (det 33 _) (.tail _ (.tail _ (.tail _ (.tail _ (.head _)))))
      have e34 := hF 13 (det 34 _) (.tail _ (.tail _ (.tail _ (.head _))))
      have e35 := hF 14 (det 35 _) (.tail _ (.tail _ (.head _)))
      have e36 := hF 15 (det 36 _) (.tail _ (.head _))
      have e37 := hF 16 (det 37 _) (.head _)
      rw [AllEq.frame (D := [21, 22, 23, 24, 25, 26, 27, 28, 29, 30, 31, 32, 33, 34, 35, 36, 37]) (AllEq.cons e21 (AllEq.cons e22 (AllEq.cons e23 (AllEq.cons e24 (AllEq.cons e25 (AllEq.cons e26 (AllEq.cons e27 (AllEq.cons e28 (AllEq.cons e29 (AllEq.cons e30 (AllEq.cons e31 (AllEq.cons e32 (AllEq.cons e33 (AllEq.cons e34 (AllEq.cons e35 (AllEq.cons e36 (AllEq.cons e37 (AllEq.nil)))))))))))))))))) hE rfl]
      clear hF hE e21 e22 e23 e24 e25 e26 e27 e28 e29 e30 e31 e32 e33 e34 e35 e36 e37
      simp only [List.foldl_cons, List.foldl_nil, Act.put, List.setIfInBounds_toArray, List.set_cons_succ, List.set_cons_zero]
      refine Z10 (by simp [go_sem]; exact ⟨rfl, rfl⟩) ?_
      have hEx := hEx.trans R2
      go_wp2_with fail
      go_roundw
      case rel => exact ⟨j + 1, _, by omega, by go_num, rfl, by rw [ByteArray.size_append, ByteArray.size_append]; omega, HQ', hEx⟩
      case measure => simp [intOf]; omega
    · obtain rfl : j = len := by omega
      have hfin : hdL lv j ++ pairsL (xs.take j) = hdL lv j ++ pairsL xs ++ List.replicate 0 0 := by rw [List.take_of_length_le (by omega)]; simp
      have HQ : Hid (Q = ⟨(hdL lv j ++ pairsL xs ++ List.replicate 0 0).toArray⟩) := by rw [← hfin]; exact HQ
      clear hfin
      go_upto_region 6 with fail
      go_loopw [3] (fun s wr => ∃ (k : Nat) (Q : ByteArray), s = .string Q ∧ Q.size = 4 + 16 * j + k ∧ 4 + 16 * j + k ≤ 252 ∧ Hid (Q = ⟨(hdL lv j ++ pairsL xs ++ List.replicate k 0).toArray⟩) ∧ Ext (w.alloc (.cells #[.int .i64 lv, .slice A j cap] 47)) wr) (fun s _ => 252 - strLnL s)
      case atStart => exact ⟨0, Q, rfl, by omega, by omega, HQ, hEx⟩
      case round =>
        clear HQ q1 hEx hQs
        obtain ⟨k, Q, rfl, hQs, hk, HQ, hEx⟩ := hrel
        by_cases h252 : Q.size < 252
        · have hd : decide ((Q.size : Int) < 252) = true := by rw [decide_eq_true_iff]; omega
          have HQ' : Hid (Q ++ ⟨#[0]⟩ = ⟨(hdL lv j ++ pairsL xs ++ List.replicate (k + 1) 0).toArray⟩) := by
            show Q ++ ⟨[0].toArray⟩ = _
            rw [HQ.out, Z5b, List.replicate_succ']
            simp
          have hz1 : (⟨#[0]⟩ : ByteArray).size = 1 := rfl
          go_wp2_with fail
          go_roundw
          case rel => exact ⟨k + 1, _, rfl, by rw [ByteArray.size_append, hz1]; omega, by omega, HQ', hEx⟩
          case measure => simp [strLnL, ByteArray.size_append]; omega
        · have hd : decide ((Q.size : Int) < 252) = false := by rw [decide_eq_false_iff_not]; omega
          have hkk : k = 248 - 16 * xs.length := by omega
          have hQl : Q.data.toList = leafL lv xs := by
            rw [HQ.out, Z4r, hkk, hlen]
          obtain ⟨q, hq⟩ : ∃ q : ByteArray, (⟨(sealL (leafL lv xs)).toArray⟩ : ByteArray) = q := ⟨_, rfl⟩
          have HS := Lib.hid (fun W => Z7g Q q W (by omega) (by rw [hQl]; exact hq))
          have Hq := Lib.hid hq
          clear hq hQl hkk HQ
          go_wp2_with fail
          refine (HS.out _).mono ?_
          rintro e w2 ⟨rfl, R2⟩
          have hEx := HE.out.trans (hEx.trans R2)
          clear R2 HS
          go_wp2_with fail
          go_ret
          exact ⟨by rw [Hq.out]; rfl, hEx⟩
end Go.Proofs.YtakkhglbdljfiaaGreatDoor

/- The walk of tierceref01.Number. -/
namespace Go.Proofs.YtakkhglbdljfiaaGreatDoor
set_option linter.unusedVariables false
set_option linter.unusedSimpArgs false
open Go.RowKit

theorem numL_drop (l : List UInt8) (k : Nat) (h : k < l.length) : numL (l.drop k) = (l.getD k 0).toNat + 256 * numL (l.drop (k + 1)) := by
  rw [List.drop_eq_getElem_cons h, numL]
  simp [List.getD, List.getElem?_eq_getElem h]

set_option maxRecDepth 10000 in
set_option maxHeartbeats 1000000 in
theorem Z69 (s : ByteArray) (w : World) (hs : s.size ≤ 8) :
    Calls Tryz.prog 67 #[.string s] w fun e w' => e = .returned (.int .u64 (numL s.data.toList)) ∧ w = w' := by
  have hsl : s.data.toList.length = s.size := by simp
  go_enter Tryz.func67, Tryz.ntmps67
  go_wp2_with fail
  go_loop [3, 4] (fun x i => ∃ (k X : Nat), k ≤ s.size ∧ i = .int .i64 ((k : Int) - 1) ∧ x = .int .u64 X ∧ Hid (X = numL (s.data.toList.drop k))) (fun _ i => (intOf i + 1).toNat)
  case atStart => exact ⟨s.size, 0, by omega, rfl, rfl, by show 0 = _; rw [List.drop_of_length_le (by omega)]; rfl⟩
  case round =>
    obtain ⟨k, X, hk, rfl, rfl, HX⟩ := hrel
    by_cases hlt : 0 < k
    · obtain ⟨j, rfl⟩ : ∃ j, k = j + 1 := ⟨k - 1, by omega⟩
      have hj : j < s.size := by omega
      have hd := numL_drop s.data.toList j (by omega)
      have hl := Z2j (s.data.toList.drop (j + 1))
      have hl2 := Z2j (s.data.toList.drop j)
      rw [← HX.out] at hd hl
      rw [List.length_drop, hsl] at hl hl2
      have hp : 256 ^ (s.size - j) ≤ 256 ^ 8 := Nat.pow_le_pow_right (by decide) (by omega)
      simp only [Nat.reducePow] at hp
      rw [hd] at hl2
      have hb := Z2c s j hj
      have hx : ((j + 1 : Nat) : Int) - 1 = (j : Int) := by omega
      rw [hx]
      rw [← hb] at hd hl2
      have HD := Lib.hid hd
      have hbound : (s[j]'hj).toNat + 256 * X < 18446744073709551616 := by omega
      clear hl hl2 hd hp hb hx
      go_wp2_with fail
      go_round
      case rel => exact ⟨j, (s[j]'hj).toNat + 256 * X, by omega, by first | rfl | go_num, by first | rfl | go_num, by show _ = _; rw [HD.out]⟩
      case measure => simp [intOf]
    · obtain rfl : k = 0 := by omega
      go_wp2_with fail
      go_ret
      exact ⟨Z1y (by rw [HX.out, List.drop_zero]), rfl⟩
end Go.Proofs.YtakkhglbdljfiaaGreatDoor

/- tierceref05: Read. -/
namespace Go.Proofs.YtakkhglbdljfiaaGreatDoor
attribute [local simp] BigFrame.eval_const BigFrame.eval_global BigFrame.eval_func
set_option linter.unusedVariables false
set_option linter.unusedSimpArgs false
open Go.RowKit

theorem num_at (s : ByteArray) (bs : List UInt8) (hbs : s.data.toList = bs) (i j : Nat) (hij : j = i + 8) (X : Nat) (hX : numL ((bs.drop i).take 8) = X) (w : World) :
    Calls Tryz.prog 67 #[.string (s.extract i j)] w fun e w' => e = .returned (.int .u64 X) ∧ Ext w w' := by
  refine (Z69 (s.extract i j) w (by rw [ByteArray.size_extract]; omega)).mono ?_
  rintro e w' ⟨rfl, rfl⟩
  refine ⟨?_, Ext.refl _⟩
  rw [Lib.extract_data, hbs, hij, show i + 8 - i = 8 by omega, hX]

theorem Z11 {R : Ending → World → Prop} {ac : Act} {w : World} {X : Nat} {lv : Int} {v : Value} {x : Bool} (h2 : ac.tmps[2]?.getD undef = .pointer (some ⟨X, 0, none⟩)) (h3 : ac.tmps[3]?.getD undef = .bool x) (hd : ac.defers = [])
    (hF : Blk w X 47 #[.int .i64 lv, v]) (hR : R (.returned (.tuple #[.agg #[.int .i64 lv, v], .bool x])) w) : bodyPost Tryz.prog Tryz.f37 R .ret ac w := by
  obtain ⟨tm, df⟩ := ac
  simp only at h2 h3 hd
  have p0 := hF.cell 0
  have p1 := hF.cell 1
  exact bodyPost_ret (v := .tuple #[.agg #[.int .i64 lv, v], .bool x]) (by simp [results, Tryz.results37, go_sem, h2, h3, p0, p1]) hd hR

theorem Z7i (s : ByteArray) (w : World) (hs : s.size ≠ 256) :
    Calls Tryz.prog 37 #[.string s] w fun e w' => e = .returned (.tuple #[.agg #[.int .i64 0, .slice none 0 0], .bool false]) ∧ Ext w w' := by
  have h1 : ((s.size : Int) != 256) = true := by simp; omega
  go_enter Tryz.func37, Tryz.ntmps37
  go_wp2_with fail
  exact Z11 (X := w.heap.size) (lv := 0) (v := .slice none 0 0) (x := false) rfl rfl rfl (Blk.new w _ _) ⟨rfl, by (repeat (first | with_reducible exact Below.refl _ _ | with_reducible assumption | with_reducible apply Below.drew | with_reducible apply Z09 | (with_reducible refine Z0d ?_ ?_; focus ((try simp); (try omega); done)) | (with_reducible refine Z0e ?_ ?_; focus ((try simp); (try omega); done))))⟩

set_option maxRecDepth 100000 in
set_option maxHeartbeats 8000000 in
theorem rlread_256 (s : ByteArray) (wa : World) (hs : s.size = 256) (bs : List UInt8) (hbs : s.data.toList = bs) :
    Calls Tryz.prog 37 #[.string s] wa fun e w' => Ext wa w' ∧ (readB bs = false → e = .returned (.tuple #[.agg #[.int .i64 0, .slice none 0 0], .bool false])) ∧
      (readB bs = true → ∃ B cap, e = .returned (.tuple #[.agg #[.int .i64 (lvAt bs : Nat), .slice B (cntAt bs) cap], .bool true]) ∧ cntAt bs ≤ cap ∧ cap ≤ maxLen ∧ Row w' B 2 pairC (pairsAt bs (cntAt bs))) := by
  have hl : bs.length = 256 := by rw [← hbs]; exact (show s.data.toList.length = s.size by simp).trans hs
  obtain ⟨lv, hlv⟩ : ∃ k, (bs.getD 1 0).toNat = k := ⟨_, rfl⟩
  obtain ⟨n2, hn2⟩ : ∃ k, (bs.getD 2 0).toNat = k := ⟨_, rfl⟩
  obtain ⟨N, hN⟩ : ∃ N, cntAt bs = N := ⟨_, rfl⟩
  have hNn : N = min n2 15 := by rw [← hN, ← hn2]; rfl
  have b1 : lv < 256 := by rw [← hlv]; exact UInt8.toNat_lt _
  have b2 : n2 < 256 := by rw [← hn2]; exact UInt8.toNat_lt _
  have x1 := Z2c s 1 (by omega)
  have x2 := Z2c s 2 (by omega)
  rw [hbs, ← UInt8.toNat_inj, hlv] at x1
  rw [hbs, ← UInt8.toNat_inj, hn2] at x2
  obtain ⟨C, hC⟩ : ∃ C, readB bs = C := ⟨_, rfl⟩
  have hlvv : lvAt bs = lv := hlv
  have hCC : C = (goodB (lv : Nat) (pairsAt bs N) && decide (sealL (leafL lv (pairsAt bs N)) = bs)) := by
    rw [← hC]
    unfold readB
    rw [decide_eq_true hl, Bool.true_and, hlvv, hN]
  rw [hC, hN, hlvv]
  have HC := Lib.hid hCC
  have HN := Lib.hid hNn
  have h1 : ((s.size : Int) != 256) = false := by simp; omega
  have hw1 : IntKind.i64.wrap (lv : Int) = (lv : Int) := IntWalk.i64_in _ (by omega)
  have hw2 : IntKind.i64.wrap (n2 : Int) = (n2 : Int) := IntWalk.i64_in _ (by omega)
  obtain ⟨i0, hi, hz0, hz1, hz2⟩ := info_parts infoPair
  clear hC hCC hlvv hlv hn2 hN hNn
  have O0 := (Own.start wa).new 47 #[.int .i64 0, .slice none 0 0]
  have O1 : Own wa.heap.size wa [lfB (wa.heap.size + 1) lv (.slice none 0 0), lfB wa.heap.size 0 (.slice none 0 0)] ((wa.alloc (.cells #[.int .i64 0, .slice none 0 0] 47)).alloc (.cells #[.int .i64 lv, .slice none 0 0] 47)) := by
    have := O0.new 47 #[.int .i64 lv, .slice none 0 0]
    simpa using this
  have OR : ORow wa.heap.size wa [lfB (wa.heap.size + 1) lv (.slice none 0 0), lfB wa.heap.size 0 (.slice none 0 0)] 98 2 (.slice none 0 0) 0 ((pairsAt bs 0).flatMap pairC) _ := ORow.start O1 _ _
  clear O0 O1
  go_enter Tryz.func37, Tryz.ntmps37
  go_upto_region 5 with fail
  go_loopw [5, 6] (fun i _ wr => ∃ (j : Nat) (v : Value), j ≤ N ∧ i = .int .i64 j ∧ ORow wa.heap.size wa [lfB (wa.heap.size + 1) lv v, lfB wa.heap.size 0 (.slice none 0 0)] 98 2 v j ((pairsAt bs j).flatMap pairC) wr) (fun i _ _ => N - (intOf i).toNat)
  case atStart => exact ⟨0, _, by omega, rfl, OR⟩
  case round =>
    clear OR
    obtain ⟨j, v, hj, rfl, OR⟩ := hrel
    have hj15 : j ≤ 15 := by have := HN.out; omega
    by_cases hlt : j < N
    · have d1 : decide ((j : Int) < (n2 : Int)) = true := by have := HN.out; rw [decide_eq_true_iff]; omega
      have d1n : decide (j < n2) = true := by have := HN.out; rw [decide_eq_true_iff]; omega
      have d2 : decide ((j : Int) < 15) = true := by have := HN.out; rw [decide_eq_true_iff]; omega
      obtain ⟨K1, hK1⟩ : ∃ K, (pairAt bs j).1 = K := ⟨_, rfl⟩
      obtain ⟨K2, hK2⟩ : ∃ K, (pairAt bs j).2 = K := ⟨_, rfl⟩
      have hfl := Z2b bs j
      rw [hK1, hK2] at hfl
      obtain ⟨a, ha⟩ : ∃ a : Nat, 4 + 16 * j = a := ⟨_, rfl⟩
      have haj : j < 15 := by have := HN.out; omega
      have ha244 : a + 16 ≤ 252 := by omega
      have hA1 := Lib.hid (num_at s bs hbs a (a + 8) rfl K1 (by rw [← hK1, ← ha]; rfl))
      have hA2 := Lib.hid (num_at s bs hbs (a + 8) (a + 16) (by omega) K2 (by rw [← hK2, ← ha, show 4 + 16 * j + 8 = 12 + 16 * j by omega]; rfl))
      have hwa : IntKind.i64.wrap (4 + IntKind.i64.wrap (16 * (j : Int))) = (a : Int) := by rw [IntWalk.i64_in (16 * (j : Int)) (by omega), IntWalk.i64_in _ (by omega)]; omega
      have hae : (4 : Int) + 16 * (j : Int) = (a : Int) := by omega
      have hp8 : IntKind.i64.wrap ((a : Int) + 8) = (a : Int) + 8 := IntWalk.i64_in _ (by omega)
      have hp16 : IntKind.i64.wrap ((a : Int) + 16) = (a : Int) + 16 := IntWalk.i64_in _ (by omega)
      have ht8 : ((a : Int) + 8).toNat = a + 8 := by omega
      have ht16 : ((a : Int) + 16).toNat = a + 16 := by omega
      have hjb : (j + 1) * 16 ≤ 140737488355328 := by omega
      have hjm : j + 1 ≤ maxLen := by unfold maxLen; omega
      clear hK1 hK2 ha
      generalize hXS : (pairsAt bs j).flatMap pairC = XS at hfl OR
      clear hXS
      go_upto_region 8 with fail
      clear hae d1 d1n d2
      refine Z29 (Ext) (fun l w => ORow wa.heap.size wa [lfB (wa.heap.size + 1) lv v, lfB wa.heap.size 0 (.slice none 0 0)] 98 2 v j XS w) [[], [0], [], [], [], [4], [2, 3, 4, 5], [2, 3, 4, 5, 6], [], [], [9], [], [11], [8, 9, 10, 11, 12], [2, 3, 4, 5, 6, 7, 8, 9, 10, 11, 12, 13], [2, 3, 4, 5, 6, 7, 8, 9, 10, 11, 12, 13, 14], [2, 3, 4, 5, 6, 7, 8, 9, 10, 11, 12, 13, 14, 15], [0, 1, 2, 3, 4, 5, 6, 7, 8, 9, 10, 11, 12, 13, 14, 15, 16], [0, 1, 2, 3, 4, 5, 6, 7, 8, 9, 10, 11, 12, 13, 14, 15, 16, 17], [0, 1, 2, 3, 4, 5, 6, 7, 8, 9, 10, 11, 12, 13, 14, 15, 16, 17, 18]] [29, 30, 31, 32, 33, 34, 35, 36, 37, 38, 39, 40, 41, 42, 43, 44, 45] (Ext.refl) (OR.ext (Ext.drew _)) (by kernel_rfl) ?_
      apply BuildR.det 29 (Ext.refl) (fun l w h => h) (by rfl) (by rfl) rfl
      case h =>
        intro lx ax wx hE hR hF
        have e4 : ax.eval (.tmp 4) = .pointer (some ⟨wa.heap.size + 1, 0, none⟩) := hE.eval 4 (by rfl) rfl
        simp [go_sem, ↓IntWalk.iteOmega, ev e4, hp8, hp16]
        with_reducible rfl
      apply BuildR.det 30 (Ext.refl) (fun l w h => h) (by rfl) (by rfl) rfl
      case h =>
        intro lx ax wx hE hR hF
        have e29 := hF 0 (det 29 _) (by decide) (.head _)
        have q1 : wx.cell? ⟨wa.heap.size + 1, 1, none⟩ = some v := (ORow.own hR).all.1.cell 1
        simp [go_sem, ↓IntWalk.iteOmega, ev e29, hp8, hp16, q1]
        with_reducible rfl
      apply BuildR.det 31 (Ext.refl) (fun l w h => h) (by rfl) (by rfl) rfl
      case h =>
        intro lx ax wx hE hR hF
        have e0 : ax.eval (.tmp 0) = .string s := hE.eval 0 (by rfl) rfl
        simp [go_sem, ↓IntWalk.iteOmega, ev e0, hp8, hp16]
        with_reducible rfl
      apply BuildR.det 32 (Ext.refl) (fun l w h => h) (by rfl) (by rfl) rfl
      case h =>
        intro lx ax wx hE hR hF
        have e6 : ax.eval (.tmp 6) = .int .i64 a := hE.eval 6 (by rfl) rfl
        simp [go_sem, ↓IntWalk.iteOmega, ev e6, hp8, hp16]
        with_reducible rfl
      apply BuildR.det 33 (Ext.refl) (fun l w h => h) (by rfl) (by rfl) rfl
      case h =>
        intro lx ax wx hE hR hF
        have e6 : ax.eval (.tmp 6) = .int .i64 a := hE.eval 6 (by rfl) rfl
        simp [go_sem, ↓IntWalk.iteOmega, ev e6, hp8, hp16]
        with_reducible rfl
      apply BuildR.det 34 (Ext.refl) (fun l w h => h) (by rfl) (by rfl) rfl
      case h =>
        intro lx ax wx hE hR hF
        have e33 := hF 4 (det 33 _) (by decide) (.head _)
        simp [go_sem, ↓IntWalk.iteOmega, ev e33, hp8, hp16]
        with_reducible rfl
      apply BuildR.det 35 (Ext.refl) (fun l w h => h) (by rfl) (by rfl) rfl
      case h =>
        intro lx ax wx hE hR hF
        have e31 := hF 2 (det 31 _) (by decide) (.tail _ (.tail _ (.tail _ (.head _))))
        have e32 := hF 3 (det 32 _) (by decide) (.tail _ (.tail _ (.head _)))
        have e34 := hF 5 (det 34 _) (by decide) (.head _)
        simp [go_sem, ↓IntWalk.iteOmega, ev e31, ev e32, ev e34, hp8, hp16, hs, ht8]
        with_reducible rfl
      apply BuildR.call 36 (by rfl) (by rfl) rfl
      case h =>
        intro lx ax wx hE hR hF
        have e35 := hF 6 (det 35 _) (by decide) (.head _)
        simp [go_sem, ↓IntWalk.iteOmega, ev e35, hp8, hp16]
        with_reducible exact ⟨rfl, rfl⟩
      case hc => intro lx wx hR hl hA; exact (hA1.out wx).mono (fun e w' h => ⟨h.1, h.2, ORow.ext hR h.2⟩)
      apply BuildR.det 37 (Ext.refl) (fun l w h => h) (by rfl) (by rfl) rfl
      case h =>
        intro lx ax wx hE hR hF
        have e0 : ax.eval (.tmp 0) = .string s := hE.eval 0 (by rfl) rfl
        simp [go_sem, ↓IntWalk.iteOmega, ev e0, hp8, hp16]
        with_reducible rfl
      apply BuildR.det 38 (Ext.refl) (fun l w h => h) (by rfl) (by rfl) rfl
      case h =>
        intro lx ax wx hE hR hF
        have e6 : ax.eval (.tmp 6) = .int .i64 a := hE.eval 6 (by rfl) rfl
        simp [go_sem, ↓IntWalk.iteOmega, ev e6, hp8, hp16]
        with_reducible rfl
      apply BuildR.det 39 (Ext.refl) (fun l w h => h) (by rfl) (by rfl) rfl
      case h =>
        intro lx ax wx hE hR hF
        have e38 := hF 9 (det 38 _) (by decide) (.head _)
        simp [go_sem, ↓IntWalk.iteOmega, ev e38, hp8, hp16]
        with_reducible rfl
      apply BuildR.det 40 (Ext.refl) (fun l w h => h) (by rfl) (by rfl) rfl
      case h =>
        intro lx ax wx hE hR hF
        have e6 : ax.eval (.tmp 6) = .int .i64 a := hE.eval 6 (by rfl) rfl
        simp [go_sem, ↓IntWalk.iteOmega, ev e6, hp8, hp16]
        with_reducible rfl
      apply BuildR.det 41 (Ext.refl) (fun l w h => h) (by rfl) (by rfl) rfl
      case h =>
        intro lx ax wx hE hR hF
        have e40 := hF 11 (det 40 _) (by decide) (.head _)
        simp [go_sem, ↓IntWalk.iteOmega, ev e40, hp8, hp16]
        with_reducible rfl
      apply BuildR.det 42 (Ext.refl) (fun l w h => h) (by rfl) (by rfl) rfl
      case h =>
        intro lx ax wx hE hR hF
        have e37 := hF 8 (det 37 _) (by decide) (.tail _ (.tail _ (.tail _ (.tail _ (.head _)))))
        have e39 := hF 10 (det 39 _) (by decide) (.tail _ (.tail _ (.head _)))
        have e41 := hF 12 (det 41 _) (by decide) (.head _)
        simp [go_sem, ↓IntWalk.iteOmega, ev e37, ev e39, ev e41, hp8, hp16, hs, ht8, ht16]
        with_reducible rfl
      apply BuildR.call 43 (by rfl) (by rfl) rfl
      case h =>
        intro lx ax wx hE hR hF
        have e42 := hF 13 (det 42 _) (by decide) (.head _)
        simp [go_sem, ↓IntWalk.iteOmega, ev e42, hp8, hp16]
        with_reducible exact ⟨rfl, rfl⟩
      case hc => intro lx wx hR hl hA; exact (hA2.out wx).mono (fun e w' h => ⟨h.1, h.2, ORow.ext hR h.2⟩)
      apply BuildR.det 44 (Ext.refl) (fun l w h => h) (by rfl) (by rfl) rfl
      case h =>
        intro lx ax wx hE hR hF
        have e36 := hF 7 (det 36 _) (by decide) (.tail _ (.tail _ (.tail _ (.tail _ (.tail _ (.tail _ (.tail _ (.head _))))))))
        have e43 := hF 14 (det 43 _) (by decide) (.head _)
        simp [go_sem, ↓IntWalk.iteOmega, ev e36, ev e43, hp8, hp16]
        with_reducible rfl
      refine BuildR.new 45 (fun v w => ∃ g, v = .slice (some ⟨g, 0, none⟩) 1 1 ∧ Blk w g 98 #[.int .u64 K1, .int .u64 K2]) (fun v w w' hR ⟨g, h1, h2⟩ => ⟨g, h1, h2.ext hR⟩) (by rfl) (by rfl) rfl ?_ ?_
      · intro lx ax wx hE hR hl hA hF
        have e44 := hF 15 (det 44 _) (by decide) (.head _)
        exact ⟨_, _, by simp [go_sem, ev e44], Ext.alloc _ _, ORow.ext hR (Ext.alloc _ _), _, rfl, Blk.new _ _ _⟩
      apply BuildR.stop
      refine ⟨by kernel_rfl, ?_⟩
      intro lx ax w8 hE OR8 hL hF
      have e29 := hF 0 (det 29 _) (.tail _ (.tail _ (.tail _ (.tail _ (.tail _ (.tail _ (.tail _ (.tail _ (.tail _ (.tail _ (.tail _ (.tail _ (.tail _ (.tail _ (.tail _ (.tail _ (.head _)))))))))))))))))
      have e30 := hF 1 (det 30 _) (.tail _ (.tail _ (.tail _ (.tail _ (.tail _ (.tail _ (.tail _ (.tail _ (.tail _ (.tail _ (.tail _ (.tail _ (.tail _ (.tail _ (.tail _ (.head _))))))))))))))))
      have e31 := hF 2 (det 31 _) (.tail _ (.tail _ (.tail _ (.tail _ (.tail _ (.tail _ (.tail _ (.tail _ (.tail _ (.tail _ (.tail _ (.tail _ (.tail _ (.tail _ (.head _)))))))))))))))
      have e32 := hF 3 (det 32 _) (.tail _ (.tail _ (.tail _ (.tail _ (.tail _ (.tail _ (.tail _ (.tail _ (.tail _ (.tail _ (.tail _ (.tail _ (.tail _ (.head _))))))))))))))
      have e33 := hF 4 (det 33 _) (.tail _ (.tail _ (.tail _ (.tail _ (.tail _ (.tail _ (.tail _ (.tail _ (.tail _ (.tail _ (.tail _ (.tail _ (.head _)))))))))))))
      have e34 := hF 5 (det 34 _) (.tail _ (.tail _ (.tail _ (.tail _ (.tail _ (.tail _ (.tail _ (.tail _ (.tail _ (.tail _ (.tail _ (.head _))))))))))))
      have e35 := hF 6 (det 35 _) (.tail _ (.tail _ (.tail _ (.tail _ (.tail _ (.tail _ (.tail _ (.tail _ (.tail _ (.tail _ (.head _)))))))))))
      have e36 := hF 7 (det 36 _) (.tail _ (.tail _ (.tail _ (.tail _ (.tail _ (.tail _ (.tail _ (.tail _ (.tail _ (.head _))))))))))
      have e37 := hF 8 (det 37 _) (.tail _ (.tail _ (.tail _ (.tail _ (.tail _ (.tail _ (.tail _ (.tail _ (.head _)))))))))
      have e38 := hF 9 (det 38 _) (.tail _ (.tail _ (.tail _ (.tail _ (.tail _ (.tail _ (.tail _ (.head _))))))))
      have e39 := hF 10 (det 39 _) (.tail _ (.tail _ (.tail _ (.tail _ (.tail _ (.tail _ (.head _)))))))
      have e40 := hF 11 (det 40 _) (.tail _ (.tail _ (.tail _ (.tail _ (.tail _ (.head _))))))
      have e41 := hF 12 (det 41 _) (.tail _ (.tail _ (.tail _ (.tail _ (.head _)))))
      have e42 := hF 13 (det 42 _) (.tail _ (.tail _ (.tail _ (.head _))))
      have e43 := hF 14 (det 43 _) (.tail _ (.tail _ (.head _)))
      have e44 := hF 15 (det 44 _) (.tail _ (.head _))
      have f45 := hF 16 _ (.head _)
      obtain ⟨g, e45, hg⟩ := f45
      rw [AllEq.frame (D := [29, 30, 31, 32, 33, 34, 35, 36, 37, 38, 39, 40, 41, 42, 43, 44, 45]) (AllEq.cons e29 (AllEq.cons e30 (AllEq.cons e31 (AllEq.cons e32 (AllEq.cons e33 (AllEq.cons e34 (AllEq.cons e35 (AllEq.cons e36 (AllEq.cons e37 (AllEq.cons e38 (AllEq.cons e39 (AllEq.cons e40 (AllEq.cons e41 (AllEq.cons e42 (AllEq.cons e43 (AllEq.cons e44 (AllEq.cons e45 (AllEq.nil)))))))))))))))))) hE rfl]
      clear hF hE e29 e30 e31 e32 e33 e34 e35 e36 e37 e38 e39 e40 e41 e42 e43 e44 e45
      simp only [List.foldl_cons, List.foldl_nil, Act.put, List.setIfInBounds_toArray, List.set_cons_succ, List.set_cons_zero]
      simp only [List.length_cons, List.length_nil, Nat.zero_add, Nat.reduceAdd, List.drop_succ_cons, List.drop_zero, List.drop_nil, tailOps]
      clear hL OR
      refine ORow.append OR8 _ _ 45 rfl i0 _ 16 Tryz.underlying45 hi hz0 hz1 hz2 rfl (by decide) rfl g 1 1 [.int .u64 K1, .int .u64 K2] rfl 98 hg rfl (by simp [Value.oneCell']) hjm hjb (fun v' w9 OR9 _ => ?_)
      rw [hfl] at OR9
      obtain ⟨B', cap', rfl⟩ := OR9.slice
      clear OR8 hg
      have q1 := OR9.own.all.1.cell 1
      have f1 := OR9.own.all.1.frozen 1
      refine Z10 (by simp [go_sem]; exact ⟨rfl, rfl⟩) ?_
      refine Z1d (by simp [go_sem, q1, f1]; rfl) ?_
      have OR10 := OR9.set (L1 := []) rfl 1 (.slice B' (j + 1) cap')
      clear OR9 q1 f1
      go_wp2_with fail
      go_roundw
      case rel => exact ⟨j + 1, _, by omega, by go_num, OR10⟩
      case measure => simp [intOf]; omega
    · obtain rfl : j = N := by omega
      obtain ⟨Bp, cap, rfl, hcap1, hcap2, hrow⟩ := OR.rows (fun _ => rfl) (Z0g bs j)
      have hlt2 := Z40 bs j
      have CG := rgood_any lv Bp j cap (pairsAt bs j) wr (Z0g bs j) (by omega) hrow (fun x hx => (hlt2 x hx).1)
      obtain ⟨G, hG⟩ : ∃ G, goodB (lv : Nat) (pairsAt bs j) = G := ⟨_, rfl⟩
      rw [hG] at CG
      have HHG := Lib.hid CG
      have HOR := Lib.hid OR
      have q0 := OR.own.all.1.cell 0
      have q1 := OR.own.all.1.cell 1
      clear CG
      have dn : (decide ((j : Int) < (n2 : Int)) && decide ((j : Int) < 15)) = false := by have := HN.out; rw [Bool.and_eq_false_iff, decide_eq_false_iff_not, decide_eq_false_iff_not]; omega
      by_cases hj15 : j < 15
      · have d2 : decide ((j : Int) < 15) = true := by rw [decide_eq_true_iff]; omega
        have d1 : decide ((j : Int) < (n2 : Int)) = false := by have := HN.out; rw [decide_eq_false_iff_not]; omega
        have d1n : decide (j < n2) = false := by have := HN.out; rw [decide_eq_false_iff_not]; omega
        clear OR hrow dn
        cases G
        · have HC3 : Hid (C = false) := by
            have := HC.out
            rw [hG, Bool.false_and] at this
            exact this
          clear hG hlt2 hcap1 hcap2
          go_wp2_with fail
          refine HHG.out.mono ?_
          rintro e w7 ⟨rfl, R7⟩
          have OR2 := HOR.out.ext R7
          clear q0 q1 d1 d1n d2 HHG R7
          have hR0 := OR2.own.all.2.1
          have p0 := hR0.cell 0
          have p1 := hR0.cell 1
          have fr0 := hR0.frozen 0
          have fr1 := hR0.frozen 1
          go_wp2_with fail
          have O3 := (OR2.own.set (L1 := [_]) rfl 0 (.int .i64 0)).set (L1 := [_]) rfl 1 (.slice none 0 0)
          exact Z11 (lv := 0) (v := .slice none 0 0) (x := false) rfl rfl rfl O3.all.2.1 ⟨O3.below, fun _ => rfl, fun h => by rw [HC3.out] at h; cases h⟩
        · have hlv8 : lv < 8 := by
            have := (Z1a lv (pairsAt bs j)).1 hG
            omega
          have hj15' : j ≤ 15 := by have := HN.out; omega
          obtain ⟨q, hq⟩ : ∃ q : ByteArray, (⟨(sealL (leafL lv (pairsAt bs j))).toArray⟩ : ByteArray) = q := ⟨_, rfl⟩
          have CB := fun (W : World) (h : Ext wr W) => Z3a lv Bp j cap (pairsAt bs j) W (Z0g bs j) hlv8 hj15' (((HOR.out.rows (fun _ => rfl) (Z0g bs j)).elim fun B2 h => h.elim fun cap2 h => by obtain ⟨he, -, -, h⟩ := h; cases he; exact h : Row wr Bp 2 pairC (pairsAt bs j)).ext h) hlt2
          rw [hq] at CB
          have HB := Lib.hid CB
          have HQ := Lib.hid hq
          have HCG : Hid (C = decide (sealL (leafL lv (pairsAt bs j)) = bs)) := by
            have := HC.out
            rw [hG, Bool.true_and] at this
            exact this
          clear hG CB hq hlt2
          by_cases hqs : q = s
          · have HC1 : Hid (C = true) := by
              show C = true
              rw [HCG.out, decide_eq_true_iff]
              have h : s.data.toList = sealL (leafL lv (pairsAt bs j)) := by rw [← hqs, ← HQ.out]
              exact h.symm.trans hbs
            have heq : (q.toList == s.toList) = true := by rw [hqs]; simp
            clear hqs
            go_wp2_with fail
            refine HHG.out.mono ?_
            rintro e w7 ⟨rfl, R7⟩
            have OR2 := HOR.out.ext R7
            clear q0 q1 d1 d1n d2 HHG
            have q0 := OR2.own.all.1.cell 0
            have q1 := OR2.own.all.1.cell 1
            have HOR2 := Lib.hid OR2
            clear OR2
            go_wp2_with fail
            refine (HB.out _ R7).mono ?_
            rintro e w8 ⟨rfl, R8⟩
            have OR2 := HOR2.out.ext R8
            clear q0 q1 HB R7 R8
            have q0 := OR2.own.all.1.cell 0
            have q1 := OR2.own.all.1.cell 1
            have hR0 := OR2.own.all.2.1
            have p0 := hR0.cell 0
            have p1 := hR0.cell 1
            have fr0 := hR0.frozen 0
            have fr1 := hR0.frozen 1
            go_wp2_with fail
            have ORS := (OR2.set (L1 := [_]) rfl 0 (.int .i64 lv)).set (L1 := [_]) rfl 1 (.slice Bp j cap)
            obtain ⟨B2, cap2, he, -, -, hrow2⟩ := ORS.rows (fun _ => rfl) (Z0g bs j)
            cases he
            exact Z11 (lv := lv) (v := .slice Bp j cap) (x := true) rfl rfl rfl ORS.own.all.2.1 ⟨ORS.own.below, fun h => (by rw [HC1.out] at h; cases h), fun _ => ⟨Bp, cap, rfl, hcap1, hcap2, hrow2⟩⟩
          · have HC3 : Hid (C = false) := by
              show C = false
              rw [HCG.out, decide_eq_false_iff_not]
              intro e
              apply hqs
              apply Z2u
              rw [← HQ.out, hbs]
              exact e
            have heq : (q.toList == s.toList) = false := Z76 hqs
            clear hqs
            go_wp2_with fail
            refine HHG.out.mono ?_
            rintro e w7 ⟨rfl, R7⟩
            have OR2 := HOR.out.ext R7
            clear q0 q1 d1 d1n d2 HHG
            have q0 := OR2.own.all.1.cell 0
            have q1 := OR2.own.all.1.cell 1
            have HOR2 := Lib.hid OR2
            clear OR2
            go_wp2_with fail
            refine (HB.out _ R7).mono ?_
            rintro e w8 ⟨rfl, R8⟩
            have OR2 := HOR2.out.ext R8
            clear q0 q1 HB R7 R8
            have hR0 := OR2.own.all.2.1
            have p0 := hR0.cell 0
            have p1 := hR0.cell 1
            have fr0 := hR0.frozen 0
            have fr1 := hR0.frozen 1
            go_wp2_with fail
            have O3 := (OR2.own.set (L1 := [_]) rfl 0 (.int .i64 0)).set (L1 := [_]) rfl 1 (.slice none 0 0)
            exact Z11 (lv := 0) (v := .slice none 0 0) (x := false) rfl rfl rfl O3.all.2.1 ⟨O3.below, fun _ => rfl, fun h => by rw [HC3.out] at h; cases h⟩
      · have d2 : decide ((j : Int) < 15) = false := by rw [decide_eq_false_iff_not]; omega
        by_cases hjn : j < n2
        · have d1 : decide ((j : Int) < (n2 : Int)) = true := by rw [decide_eq_true_iff]; omega
          have d1n : decide (j < n2) = true := by rw [decide_eq_true_iff]; omega
          clear OR hrow dn
          cases G
          · have HC3 : Hid (C = false) := by
              have := HC.out
              rw [hG, Bool.false_and] at this
              exact this
            clear hG hlt2 hcap1 hcap2
            go_wp2_with fail
            refine HHG.out.mono ?_
            rintro e w7 ⟨rfl, R7⟩
            have OR2 := HOR.out.ext R7
            clear q0 q1 d1 d1n d2 HHG R7
            have hR0 := OR2.own.all.2.1
            have p0 := hR0.cell 0
            have p1 := hR0.cell 1
            have fr0 := hR0.frozen 0
            have fr1 := hR0.frozen 1
            go_wp2_with fail
            have O3 := (OR2.own.set (L1 := [_]) rfl 0 (.int .i64 0)).set (L1 := [_]) rfl 1 (.slice none 0 0)
            exact Z11 (lv := 0) (v := .slice none 0 0) (x := false) rfl rfl rfl O3.all.2.1 ⟨O3.below, fun _ => rfl, fun h => by rw [HC3.out] at h; cases h⟩
          · have hlv8 : lv < 8 := by
              have := (Z1a lv (pairsAt bs j)).1 hG
              omega
            have hj15' : j ≤ 15 := by have := HN.out; omega
            obtain ⟨q, hq⟩ : ∃ q : ByteArray, (⟨(sealL (leafL lv (pairsAt bs j))).toArray⟩ : ByteArray) = q := ⟨_, rfl⟩
            have CB := fun (W : World) (h : Ext wr W) => Z3a lv Bp j cap (pairsAt bs j) W (Z0g bs j) hlv8 hj15' (((HOR.out.rows (fun _ => rfl) (Z0g bs j)).elim fun B2 h => h.elim fun cap2 h => by obtain ⟨he, -, -, h⟩ := h; cases he; exact h : Row wr Bp 2 pairC (pairsAt bs j)).ext h) hlt2
            rw [hq] at CB
            have HB := Lib.hid CB
            have HQ := Lib.hid hq
            have HCG : Hid (C = decide (sealL (leafL lv (pairsAt bs j)) = bs)) := by
              have := HC.out
              rw [hG, Bool.true_and] at this
              exact this
            clear hG CB hq hlt2
            by_cases hqs : q = s
            · have HC1 : Hid (C = true) := by
                show C = true
                rw [HCG.out, decide_eq_true_iff]
                have h : s.data.toList = sealL (leafL lv (pairsAt bs j)) := by rw [← hqs, ← HQ.out]
                exact h.symm.trans hbs
              have heq : (q.toList == s.toList) = true := by rw [hqs]; simp
              clear hqs
              go_wp2_with fail
              refine HHG.out.mono ?_
              rintro e w7 ⟨rfl, R7⟩
              have OR2 := HOR.out.ext R7
              clear q0 q1 d1 d1n d2 HHG
              have q0 := OR2.own.all.1.cell 0
              have q1 := OR2.own.all.1.cell 1
              have HOR2 := Lib.hid OR2
              clear OR2
              go_wp2_with fail
              refine (HB.out _ R7).mono ?_
              rintro e w8 ⟨rfl, R8⟩
              have OR2 := HOR2.out.ext R8
              clear q0 q1 HB R7 R8
              have q0 := OR2.own.all.1.cell 0
              have q1 := OR2.own.all.1.cell 1
              have hR0 := OR2.own.all.2.1
              have p0 := hR0.cell 0
              have p1 := hR0.cell 1
              have fr0 := hR0.frozen 0
              have fr1 := hR0.frozen 1
              go_wp2_with fail
              have ORS := (OR2.set (L1 := [_]) rfl 0 (.int .i64 lv)).set (L1 := [_]) rfl 1 (.slice Bp j cap)
              obtain ⟨B2, cap2, he, -, -, hrow2⟩ := ORS.rows (fun _ => rfl) (Z0g bs j)
              cases he
              exact Z11 (lv := lv) (v := .slice Bp j cap) (x := true) rfl rfl rfl ORS.own.all.2.1 ⟨ORS.own.below, fun h => (by rw [HC1.out] at h; cases h), fun _ => ⟨Bp, cap, rfl, hcap1, hcap2, hrow2⟩⟩
            · have HC3 : Hid (C = false) := by
                show C = false
                rw [HCG.out, decide_eq_false_iff_not]
                intro e
                apply hqs
                apply Z2u
                rw [← HQ.out, hbs]
                exact e
              have heq : (q.toList == s.toList) = false := Z76 hqs
              clear hqs
              go_wp2_with fail
              refine HHG.out.mono ?_
              rintro e w7 ⟨rfl, R7⟩
              have OR2 := HOR.out.ext R7
              clear q0 q1 d1 d1n d2 HHG
              have q0 := OR2.own.all.1.cell 0
              have q1 := OR2.own.all.1.cell 1
              have HOR2 := Lib.hid OR2
              clear OR2
              go_wp2_with fail
              refine (HB.out _ R7).mono ?_
              rintro e w8 ⟨rfl, R8⟩
              have OR2 := HOR2.out.ext R8
              clear q0 q1 HB R7 R8
              have hR0 := OR2.own.all.2.1
              have p0 := hR0.cell 0
              have p1 := hR0.cell 1
              have fr0 := hR0.frozen 0
              have fr1 := hR0.frozen 1
              go_wp2_with fail
              have O3 := (OR2.own.set (L1 := [_]) rfl 0 (.int .i64 0)).set (L1 := [_]) rfl 1 (.slice none 0 0)
              exact Z11 (lv := 0) (v := .slice none 0 0) (x := false) rfl rfl rfl O3.all.2.1 ⟨O3.below, fun _ => rfl, fun h => by rw [HC3.out] at h; cases h⟩
        · have d1 : decide ((j : Int) < (n2 : Int)) = false := by rw [decide_eq_false_iff_not]; omega
          have d1n : decide (j < n2) = false := by rw [decide_eq_false_iff_not]; omega
          clear OR hrow dn
          cases G
          · have HC3 : Hid (C = false) := by
              have := HC.out
              rw [hG, Bool.false_and] at this
              exact this
            clear hG hlt2 hcap1 hcap2
            go_wp2_with fail
            refine HHG.out.mono ?_
            rintro e w7 ⟨rfl, R7⟩
            have OR2 := HOR.out.ext R7
            clear q0 q1 d1 d1n d2 HHG R7
            have hR0 := OR2.own.all.2.1
            have p0 := hR0.cell 0
            have p1 := hR0.cell 1
            have fr0 := hR0.frozen 0
            have fr1 := hR0.frozen 1
            go_wp2_with fail
            have O3 := (OR2.own.set (L1 := [_]) rfl 0 (.int .i64 0)).set (L1 := [_]) rfl 1 (.slice none 0 0)
            exact Z11 (lv := 0) (v := .slice none 0 0) (x := false) rfl rfl rfl O3.all.2.1 ⟨O3.below, fun _ => rfl, fun h => by rw [HC3.out] at h; cases h⟩
          · have hlv8 : lv < 8 := by
              have := (Z1a lv (pairsAt bs j)).1 hG
              omega
            have hj15' : j ≤ 15 := by have := HN.out; omega
            obtain ⟨q, hq⟩ : ∃ q : ByteArray, (⟨(sealL (leafL lv (pairsAt bs j))).toArray⟩ : ByteArray) = q := ⟨_, rfl⟩
            have CB := fun (W : World) (h : Ext wr W) => Z3a lv Bp j cap (pairsAt bs j) W (Z0g bs j) hlv8 hj15' (((HOR.out.rows (fun _ => rfl) (Z0g bs j)).elim fun B2 h => h.elim fun cap2 h => by obtain ⟨he, -, -, h⟩ := h; cases he; exact h : Row wr Bp 2 pairC (pairsAt bs j)).ext h) hlt2
            rw [hq] at CB
            have HB := Lib.hid CB
            have HQ := Lib.hid hq
            have HCG : Hid (C = decide (sealL (leafL lv (pairsAt bs j)) = bs)) := by
              have := HC.out
              rw [hG, Bool.true_and] at this
              exact this
            clear hG CB hq hlt2
            by_cases hqs : q = s
            · have HC1 : Hid (C = true) := by
                show C = true
                rw [HCG.out, decide_eq_true_iff]
                have h : s.data.toList = sealL (leafL lv (pairsAt bs j)) := by rw [← hqs, ← HQ.out]
                exact h.symm.trans hbs
              have heq : (q.toList == s.toList) = true := by rw [hqs]; simp
              clear hqs
              go_wp2_with fail
              refine HHG.out.mono ?_
              rintro e w7 ⟨rfl, R7⟩
              have OR2 := HOR.out.ext R7
              clear q0 q1 d1 d1n d2 HHG
              have q0 := OR2.own.all.1.cell 0
              have q1 := OR2.own.all.1.cell 1
              have HOR2 := Lib.hid OR2
              clear OR2
              go_wp2_with fail
              refine (HB.out _ R7).mono ?_
              rintro e w8 ⟨rfl, R8⟩
              have OR2 := HOR2.out.ext R8
              clear q0 q1 HB R7 R8
              have q0 := OR2.own.all.1.cell 0
              have q1 := OR2.own.all.1.cell 1
              have hR0 := OR2.own.all.2.1
              have p0 := hR0.cell 0
              have p1 := hR0.cell 1
              have fr0 := hR0.frozen 0
              have fr1 := hR0.frozen 1
              go_wp2_with fail
              have ORS := (OR2.set (L1 := [_]) rfl 0 (.int .i64 lv)).set (L1 := [_]) rfl 1 (.slice Bp j cap)
              obtain ⟨B2, cap2, he, -, -, hrow2⟩ := ORS.rows (fun _ => rfl) (Z0g bs j)
              cases he
              exact Z11 (lv := lv) (v := .slice Bp j cap) (x := true) rfl rfl rfl ORS.own.all.2.1 ⟨ORS.own.below, fun h => (by rw [HC1.out] at h; cases h), fun _ => ⟨Bp, cap, rfl, hcap1, hcap2, hrow2⟩⟩
            · have HC3 : Hid (C = false) := by
                show C = false
                rw [HCG.out, decide_eq_false_iff_not]
                intro e
                apply hqs
                apply Z2u
                rw [← HQ.out, hbs]
                exact e
              have heq : (q.toList == s.toList) = false := Z76 hqs
              clear hqs
              go_wp2_with fail
              refine HHG.out.mono ?_
              rintro e w7 ⟨rfl, R7⟩
              have OR2 := HOR.out.ext R7
              clear q0 q1 d1 d1n d2 HHG
              have q0 := OR2.own.all.1.cell 0
              have q1 := OR2.own.all.1.cell 1
              have HOR2 := Lib.hid OR2
              clear OR2
              go_wp2_with fail
              refine (HB.out _ R7).mono ?_
              rintro e w8 ⟨rfl, R8⟩
              have OR2 := HOR2.out.ext R8
              clear q0 q1 HB R7 R8
              have hR0 := OR2.own.all.2.1
              have p0 := hR0.cell 0
              have p1 := hR0.cell 1
              have fr0 := hR0.frozen 0
              have fr1 := hR0.frozen 1
              go_wp2_with fail
              have O3 := (OR2.own.set (L1 := [_]) rfl 0 (.int .i64 0)).set (L1 := [_]) rfl 1 (.slice none 0 0)
              exact Z11 (lv := 0) (v := .slice none 0 0) (x := false) rfl rfl rfl O3.all.2.1 ⟨O3.below, fun _ => rfl, fun h => by rw [HC3.out] at h; cases h⟩
end Go.Proofs.YtakkhglbdljfiaaGreatDoor

/- leaf: Read of any text, the reference's too; what was written is read as it was; plain. -/
namespace Go.Proofs.YtakkhglbdljfiaaGreatDoor
set_option linter.unusedVariables false
set_option linter.unusedSimpArgs false
open Go.RowKit

theorem readC_eq (l : List UInt8) (hl : l.length = 256) (ho : sealL (l.take 252) = l) : readC l = readB l := (page_is l hl ho).symm
theorem Z7s (s : ByteArray) (w : World) (hs : s.size ≤ 1000000) (bs : List UInt8) (hbs : s.data.toList = bs) :
    Calls Tryz.prog 61 #[.string s] w fun e w' => Ext w w' ∧ (readB bs = false → e = .returned (.tuple #[.agg #[.int .i64 0, .slice none 0 0], .int .i64 3])) ∧
      (readB bs = true → ∃ B cap, e = .returned (.tuple #[.agg #[.int .i64 (lvAt bs : Nat), .slice B (cntAt bs) cap], .int .i64 0]) ∧ cntAt bs ≤ cap ∧ cap ≤ maxLen ∧ Row w' B 2 pairC (pairsAt bs (cntAt bs))) := by
  subst hbs
  have hlen : s.data.toList.length = s.size := by simp
  have shut : readB s.data.toList = false → ((∀ W : World, Calls Tryz.prog 95 #[.string s] W fun e w' => e = .returned (.tuple #[.string ⟨#[]⟩, .bool false]) ∧ Ext W w') ∨ (s.size ≠ 256 ∧ ∃ T, ∀ W : World, Calls Tryz.prog 95 #[.string s] W fun e w' => e = .returned (.tuple #[.string T, .bool true]) ∧ Ext W w')) →
      Calls Tryz.prog 61 #[.string s] w fun e w' => Ext w w' ∧ (readB s.data.toList = false → e = .returned (.tuple #[.agg #[.int .i64 0, .slice none 0 0], .int .i64 3])) ∧
      (readB s.data.toList = true → ∃ B cap, e = .returned (.tuple #[.agg #[.int .i64 (lvAt s.data.toList : Nat), .slice B (cntAt s.data.toList) cap], .int .i64 0]) ∧ cntAt s.data.toList ≤ cap ∧ cap ≤ maxLen ∧ Row w' B 2 pairC (pairsAt s.data.toList (cntAt s.data.toList))) := fun hb h => by
    refine (lread_shut s w h).mono ?_
    rintro e w' ⟨rfl, R⟩
    exact ⟨R, fun _ => rfl, fun h => by rw [hb] at h; cases h⟩
  by_cases h4 : s.size < 4
  · exact shut (Z2w _ (fun h => by omega)) (.inl fun W => Z68 s W h4)
  · by_cases ho : sealL (s.data.toList.take (s.size - 4)) = s.data.toList
    · have hO := fun W => open_yes s W (by omega) (by omega) ho
      by_cases h256 : s.size = 256
      · rw [h256] at ho hO
        have := lread_open s _ w hO h256 s.data.toList (by omega) rfl
        rw [readC_eq _ (by omega) ho] at this
        exact this
      · exact shut (Z2w _ (fun h => by omega)) (.inr ⟨h256, _, hO⟩)
    · refine shut (Z2w _ (fun h => ?_)) (.inl fun W => open_no s W (by omega) (by omega) ho)
      rw [show s.size = 256 by omega] at ho
      exact ho h.2
theorem Z60 (s : ByteArray) (w : World) (bs : List UInt8) (hbs : s.data.toList = bs) :
    Calls Tryz.prog 37 #[.string s] w fun e w' => Ext w w' ∧ (readB bs = false → e = .returned (.tuple #[.agg #[.int .i64 0, .slice none 0 0], .bool false])) ∧
      (readB bs = true → ∃ B cap, e = .returned (.tuple #[.agg #[.int .i64 (lvAt bs : Nat), .slice B (cntAt bs) cap], .bool true]) ∧ cntAt bs ≤ cap ∧ cap ≤ maxLen ∧ Row w' B 2 pairC (pairsAt bs (cntAt bs))) := by
  by_cases h : s.size = 256
  · exact rlread_256 s w h bs hbs
  · have hlen : s.data.toList.length = s.size := by simp
    rw [hbs] at hlen
    have hb : readB bs = false := Z2w _ (fun h => by omega)
    refine (Z7i s w h).mono ?_
    rintro e w' ⟨rfl, R⟩
    exact ⟨R, fun _ => rfl, fun h => by rw [hb] at h; cases h⟩

theorem Z66 : ∀ (xs ys : List (Nat × Nat)), xs.length = ys.length → (∀ x ∈ xs, x.1 < 18446744073709551616 ∧ x.2 < 18446744073709551616) → (∀ x ∈ ys, x.1 < 18446744073709551616 ∧ x.2 < 18446744073709551616) → pairsL xs = pairsL ys → xs = ys
  | [], [], _, _, _, _ => rfl
  | [], _ :: _, h, _, _, _ => by simp at h
  | _ :: _, [], h, _, _, _ => by simp at h
  | x :: xs, y :: ys, h, hx, hy, he => by
    unfold pairsL at he
    obtain ⟨h1, h2⟩ := List.append_inj he (by simp [Z0c])
    obtain ⟨h3, h4⟩ := List.append_inj h2 (by simp [Z0c])
    have e1 := congrArg numL h1
    have e2 := congrArg numL h3
    have bx := hx x (by simp)
    have bY := hy y (by simp)
    have p8 : (256 : Nat) ^ 8 = 18446744073709551616 := by decide
    rw [Z2k _ _ (by omega), Z2k _ _ (by omega)] at e1 e2
    rw [Prod.ext e1 e2, Z66 xs ys (by simpa using h) (fun z hz => hx z (by simp [hz])) (fun z hz => hy z (by simp [hz])) h4]
/-- What was written is read as it was. -/
theorem Z7m (lv : Nat) (xs : List (Nat × Nat)) (hg : goodB lv xs = true) (hx : ∀ x ∈ xs, x.1 < 18446744073709551616 ∧ x.2 < 18446744073709551616) (l : List UInt8) (hl : sealL (leafL lv xs) = l) :
    lvAt l = lv ∧ cntAt l = xs.length ∧ pairsAt l (cntAt l) = xs ∧ readB l = true := by
  have hgg := (Z1a lv xs).1 hg
  have h15 : xs.length ≤ 15 := hgg.1.2.2
  have h8 : lv < 8 := by omega
  have hlen : l.length = 256 := by rw [← hl]; exact Z6n lv xs h15
  have hform : ∃ R, l = [76, UInt8.ofNat lv, UInt8.ofNat xs.length, 0] ++ (pairsL xs ++ R) := by
    rw [← hl]
    unfold sealL
    rw [Z4r]
    refine ⟨List.replicate (248 - 16 * xs.length) 0 ++ le (crcSum (hdL lv xs.length ++ pairsL xs ++ List.replicate (248 - 16 * xs.length) 0)) 4, ?_⟩
    have : hdL lv xs.length = [76, UInt8.ofNat lv, UInt8.ofNat xs.length, 0] := by simp [hdL, le]
    rw [this]
    simp
  obtain ⟨R, hR⟩ := hform
  have e1 : lvAt l = lv := by
    unfold lvAt
    rw [hR]
    simp
    omega
  have e2 : cntAt l = xs.length := by
    unfold cntAt
    rw [hR]
    simp
    omega
  have e3 : pairsAt l (cntAt l) = xs := by
    refine Z66 _ _ (by rw [Z0g, e2]) (Z40 l _) hx ?_
    rw [Z65 l _ (by rw [e2, hlen]; omega), e2, hR]
    show ((pairsL xs ++ R).take (16 * xs.length)) = pairsL xs
    exact List.take_left' (by rw [Z1l])
  refine ⟨e1, e2, e3, ?_⟩
  unfold readB
  rw [e3, e1, decide_eq_true hlen, hg, decide_eq_true hl]
  rfl
/-- Whether a head can be. -/
abbrev HeadOk (g r a b c : Int) : Prop := 1 ≤ a ∧ a ≤ 256 ∧ 1 ≤ b ∧ b ≤ 256 ∧ 1 ≤ g ∧ g ≤ 4294967295 ∧ 0 ≤ r ∧ r < 512 ∧ 1 ≤ c ∧ c ≤ 8
abbrev headV (g r a b c : Int) : Value := .agg #[.int .u64 g, .int .i64 r, .int .i64 a, .int .i64 b, .int .i64 c]

theorem idx0 (a b : Int) : ∀ w, (Instr.index 33 (.agg #[.int .i64 a, .int .i64 b]) (.int .i64 0)).run Tryz.prog w = .ok (.int .i64 a) w := fun _ => by kernel_rfl
theorem idx1 (a b : Int) : ∀ w, (Instr.index 33 (.agg #[.int .i64 a, .int .i64 b]) (.int .i64 1)).run Tryz.prog w = .ok (.int .i64 b) w := fun _ => by kernel_rfl

set_option maxHeartbeats 1000000 in
theorem Z7u (g r a b c : Int) (w : World) :
    Calls Tryz.prog 74 #[headV g r a b c] w fun e w' => e = .returned (.bool (decide (HeadOk g r a b c))) ∧ Below w.heap.size w w' := by
  have i0 := idx0 a b
  have i1 := idx1 a b
  go_enter Tryz.func74, Tryz.ntmps74
  by_cases ha : 1 ≤ a ∧ a ≤ 256
  · obtain ⟨ha1, ha2⟩ := ha
    go_wp2_with fail
    go_loop [4, 7] (fun _ i => ∃ j : Nat, j ≤ 2 ∧ i = .int .i64 j ∧ (j = 2 → 1 ≤ b ∧ b ≤ 256)) (fun _ i => 2 - (intOf i).toNat)
    case atStart => exact ⟨0, by omega, rfl, by omega⟩
    case round =>
      obtain ⟨j, hj, rfl, hb⟩ := hrel
      rcases (show j = 0 ∨ j = 1 ∨ j = 2 by omega) with rfl | rfl | rfl
      · clear hb
        go_wp2_with fail
        go_round
        case rel => exact ⟨1, by omega, rfl, by omega⟩
        case measure => simp [intOf]
      · clear hb
        by_cases hb : 1 ≤ b ∧ b ≤ 256
        · obtain ⟨hb1, hb2⟩ := hb
          go_wp2_with fail
          go_round
          case rel => exact ⟨2, by omega, rfl, by omega⟩
          case measure => simp [intOf]
        · by_cases hb1 : b < 1
          · go_wp2
            go_ret
            exact ⟨Z13 (by simp; omega), by (repeat (first | with_reducible exact Below.refl _ _ | with_reducible assumption | with_reducible apply Below.drew | with_reducible apply Z09 | (with_reducible refine Z0d ?_ ?_; focus ((try simp); (try omega); done)) | (with_reducible refine Z0e ?_ ?_; focus ((try simp); (try omega); done))))⟩
          · have hb2 : 256 < b := by omega
            go_wp2
            go_ret
            exact ⟨Z13 (by simp; omega), by (repeat (first | with_reducible exact Below.refl _ _ | with_reducible assumption | with_reducible apply Below.drew | with_reducible apply Z09 | (with_reducible refine Z0d ?_ ?_; focus ((try simp); (try omega); done)) | (with_reducible refine Z0e ?_ ?_; focus ((try simp); (try omega); done))))⟩
      · obtain ⟨hb1, hb2⟩ := hb rfl
        clear hb
        go_wp2
        all_goals
          go_ret
          refine ⟨Z13 ?_, by (repeat (first | with_reducible exact Below.refl _ _ | with_reducible assumption | with_reducible apply Below.drew | with_reducible apply Z09 | (with_reducible refine Z0d ?_ ?_; focus ((try simp); (try omega); done)) | (with_reducible refine Z0e ?_ ?_; focus ((try simp); (try omega); done))))⟩
          rw [Bool.eq_iff_iff]
          try simp
          try omega
  · go_wp2_with fail
    by_cases ha1 : a < 1
    · go_loop [4, 7] (fun _ i => i = .int .i64 0) (fun _ _ => 0)
      case atStart => rfl
      case round =>
        subst hrel
        go_wp2
        go_ret
        exact ⟨Z13 (by simp; omega), by (repeat (first | with_reducible exact Below.refl _ _ | with_reducible assumption | with_reducible apply Below.drew | with_reducible apply Z09 | (with_reducible refine Z0d ?_ ?_; focus ((try simp); (try omega); done)) | (with_reducible refine Z0e ?_ ?_; focus ((try simp); (try omega); done))))⟩
    · have ha2 : 256 < a := by omega
      go_loop [4, 7] (fun _ i => i = .int .i64 0) (fun _ _ => 0)
      case atStart => rfl
      case round =>
        subst hrel
        go_wp2
        go_ret
        exact ⟨Z13 (by simp; omega), by (repeat (first | with_reducible exact Below.refl _ _ | with_reducible assumption | with_reducible apply Below.drew | with_reducible apply Z09 | (with_reducible refine Z0d ?_ ?_; focus ((try simp); (try omega); done)) | (with_reducible refine Z0e ?_ ?_; focus ((try simp); (try omega); done))))⟩
theorem Z7t (g r a b c : Int) (w : World) (h : HeadOk g r a b c) :
    Calls Tryz.prog 74 #[headV g r a b c] w fun e w' => e = .returned (.bool true) ∧ Below w.heap.size w w' :=
  (Z7u g r a b c w).mono fun _ _ ⟨he, hb⟩ => ⟨by rw [he]; exact Z13 (decide_eq_true h), hb⟩
theorem hgood_no (g r a b c : Int) (w : World) (h : ¬ HeadOk g r a b c) :
    Calls Tryz.prog 74 #[headV g r a b c] w fun e w' => e = .returned (.bool false) ∧ Below w.heap.size w w' :=
  (Z7u g r a b c w).mono fun _ _ ⟨he, hb⟩ => ⟨by rw [he]; exact Z13 (decide_eq_false h), hb⟩

set_option maxHeartbeats 1000000 in
theorem Z62 (g r a b c : Int) (w : World) :
    Calls Tryz.prog 38 #[headV g r a b c] w fun e w' => e = .returned (.bool (decide (HeadOk g r a b c))) ∧ Below w.heap.size w w' := by
  go_enter Tryz.func38, Tryz.ntmps38
  go_wp2
  all_goals
    go_ret
    refine ⟨Z13 ?_, by (repeat (first | with_reducible exact Below.refl _ _ | with_reducible assumption | with_reducible apply Below.drew | with_reducible apply Z09 | (with_reducible refine Z0d ?_ ?_; focus ((try simp); (try omega); done)) | (with_reducible refine Z0e ?_ ?_; focus ((try simp); (try omega); done))))⟩
    rw [Bool.eq_iff_iff]
    simp
    try omega
theorem Z61 (g r a b c : Int) (w : World) (h : HeadOk g r a b c) :
    Calls Tryz.prog 38 #[headV g r a b c] w fun e w' => e = .returned (.bool true) ∧ Below w.heap.size w w' :=
  (Z62 g r a b c w).mono fun _ _ ⟨he, hb⟩ => ⟨by rw [he]; exact Z13 (decide_eq_true h), hb⟩
theorem Z7l (g r a b c : Int) (w : World) (h : ¬ HeadOk g r a b c) :
    Calls Tryz.prog 38 #[headV g r a b c] w fun e w' => e = .returned (.bool false) ∧ Below w.heap.size w w' :=
  (Z62 g r a b c w).mono fun _ _ ⟨he, hb⟩ => ⟨by rw [he]; exact Z13 (decide_eq_false h), hb⟩

/-- A head's bytes without their sum. -/
def headL (g r a b c : Nat) : List UInt8 := [] ++ le 84 1 ++ le c 1 ++ le a 2 ++ le b 2 ++ le g 4 ++ le r 2
theorem Z25 (g r a b c : Nat) : (headL g r a b c).length = 12 := by simp [headL, Z0c]

set_option maxHeartbeats 1000000 in
theorem hbytes_no (g r a b c : Int) (w : World) (h : ¬ HeadOk g r a b c) :
    Calls Tryz.prog 42 #[headV g r a b c] w fun e w' => e = .returned (.tuple #[.string ⟨#[]⟩, .int .i64 1]) ∧ Below w.heap.size w w' := by
  have H := Lib.hid (fun W => hgood_no g r a b c W h)
  clear h
  go_enter Tryz.func42, Tryz.ntmps42
  go_wp2_with fail
  refine (H.out _).mono ?_
  rintro e w1 ⟨rfl, hw1⟩; obtain ⟨hcw1, hfw1⟩ := bcell hw1; have hsw1 := hw1.size; (try simp at hsw1)
  go_wp2_with fail
  go_ret2
  exact ⟨rfl, Below.trans (by (repeat (first | with_reducible exact Below.refl _ _ | with_reducible assumption | with_reducible apply Below.drew | with_reducible apply Z09 | (with_reducible refine Z0d ?_ ?_; focus ((try simp); (try omega); done)) | (with_reducible refine Z0e ?_ ?_; focus ((try simp); (try omega); done))))) (hw1.mono (by simp))⟩

set_option maxHeartbeats 1000000 in
theorem hbytes_yes (g r a b c : Nat) (w : World) (h : HeadOk g r a b c) :
    Calls Tryz.prog 42 #[headV g r a b c] w fun e w' => e = .returned (.tuple #[.string ⟨(sealL (headL g r a b c)).toArray⟩, .int .i64 0]) ∧ Below w.heap.size w w' := by
  have H := Lib.hid (fun W => Z7t g r a b c W h)
  obtain ⟨a1, a2, b1, b2, g1, g2, r1, r2, c1, c2⟩ := h
  have i0 := idx0 a b
  have i1 := idx1 a b
  go_enter Tryz.func42, Tryz.ntmps42
  go_wp2_with fail
  refine (H.out _).mono ?_
  rintro e w1 ⟨rfl, hw1⟩
  have hA : Blk w1 w.heap.size 39 #[.int .u64 g, .int .i64 r, .int .i64 a, .int .i64 b, .int .i64 c] := (Blk.new w 39 _).below hw1 (by simp)
  have hz : w.heap.size < w1.heap.size := hA.lt
  have hb0 : Below w.heap.size w w1 := Below.trans (by (repeat (first | with_reducible exact Below.refl _ _ | with_reducible assumption | with_reducible apply Below.drew | with_reducible apply Z09 | (with_reducible refine Z0d ?_ ?_; focus ((try simp); (try omega); done)) | (with_reducible refine Z0e ?_ ?_; focus ((try simp); (try omega); done))))) (hw1.mono (by simp))
  have S0 : Ws w1 w1.heap.size [] (w1.alloc (.cells #[.pointer none, .slice none 0 0] 132)) := Ws.new_ rfl
  have k4 := (S0.blk hA hz).cell 4
  have Hw1 := Lib.hid hb0
  clear hw1 H hb0
  go_wp2_with fail
  refine (Z5p S0 84 1 1 (by decide) (by decide) (by simp)).mono ?_
  rintro e w2 ⟨rfl, S1⟩
  clear k4 S0
  have k4 := (S1.blk hA hz).cell 4
  go_wp2_with fail
  refine (Z5p S1 c 1 1 (by decide) (by omega) (by simp [Z0c])).mono ?_
  rintro e w3 ⟨rfl, S2⟩
  clear k4 S1
  have k2 := (S2.blk hA hz).cell 2
  have k3 := (S2.blk hA hz).cell 3
  go_wp2_with fail
  go_loopw [6, 17] (fun _ i wr => (i = .int .i64 0 ∧ Ws w1 w1.heap.size ([] ++ le 84 1 ++ le c 1) wr) ∨ (i = .int .i64 1 ∧ Ws w1 w1.heap.size ([] ++ le 84 1 ++ le c 1 ++ le a 2) wr) ∨ (i = .int .i64 2 ∧ Ws w1 w1.heap.size ([] ++ le 84 1 ++ le c 1 ++ le a 2 ++ le b 2) wr)) (fun _ i _ => 2 - (intOf i).toNat)
  case atStart => exact .inl ⟨rfl, S2⟩
  case round =>
    clear k2 k3 S2
    rcases hrel with ⟨rfl, S⟩ | ⟨rfl, S⟩ | ⟨rfl, S⟩
    · go_wp2_with fail
      refine (Z5p S a 2 2 (by decide) (by omega) (by simp [Z0c])).mono ?_
      rintro e w4 ⟨rfl, S3⟩
      clear S
      go_wp2_with fail
      go_roundw
      case rel => exact .inr (.inl ⟨rfl, S3⟩)
      case measure => simp [intOf]
    · go_wp2_with fail
      refine (Z5p S b 2 2 (by decide) (by omega) (by simp [Z0c])).mono ?_
      rintro e w4 ⟨rfl, S3⟩
      clear S
      go_wp2_with fail
      go_roundw
      case rel => exact .inr (.inr ⟨rfl, S3⟩)
      case measure => simp [intOf]
    · have k0 := (S.blk hA hz).cell 0
      go_wp2_with fail
      refine (Z5p S g 4 4 (by decide) (by omega) (by simp [Z0c])).mono ?_
      rintro e w4 ⟨rfl, S4⟩
      clear S k0
      have k1 := (S4.blk hA hz).cell 1
      go_wp2_with fail
      refine (Z5p S4 r 2 2 (by decide) (by omega) (by simp [Z0c])).mono ?_
      rintro e w5 ⟨rfl, S5⟩
      clear S4 k1
      have hl := Z25 g r a b c
      have hS : Ws w1 w1.heap.size (headL g r a b c) w5 := S5
      clear S5
      generalize hLL : headL g r a b c = L at hl hS ⊢
      have HLL := Lib.hid hLL
      clear hLL
      go_wp2_with fail
      refine (ws_string hS (by intro e; rw [e] at hl; simp at hl)).mono ?_
      rintro e w6 ⟨rfl, S6⟩
      clear hS
      have hb6 : Below w.heap.size w w6 := Hw1.out.trans (S6.below_.mono (by omega))
      have HL := Lib.hid hb6
      clear S6 hb6
      go_wp2_with fail
      refine (Z6o ⟨L.toArray⟩ _ (by show L.toArray.size ≤ _; rw [List.size_toArray, hl]; decide)).mono ?_
      rintro e w7 ⟨rfl, hb7⟩
      go_wp2_with fail
      go_ret2
      exact ⟨by rw [HLL.out]; rfl, below_then HL.out hb7⟩
end Go.Proofs.YtakkhglbdljfiaaGreatDoor

/- The walk of tierceref01.Number. -/
