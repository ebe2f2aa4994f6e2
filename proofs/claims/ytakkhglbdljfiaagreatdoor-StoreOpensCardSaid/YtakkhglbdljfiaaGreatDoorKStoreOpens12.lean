/- The walk of head's reference: Bytes. -/
import Derived.Test.YtakkhglbdljfiaaGreatDoorKStoreOpens11
import Derived.RegionTactic
import Derived.Test.YtakkhglbdljfiaaGreatDoorKStoreOpens00
import Derived.Test.YtakkhglbdljfiaaGreatDoorKStoreOpens08
import Derived.Lib.Strings
import Derived.Test.YtakkhglbdljfiaaGreatDoorKStoreOpens06
import Derived.Test.YtakkhglbdljfiaaGreatDoorKStoreOpens07
namespace Go.Proofs.YtakkhglbdljfiaaGreatDoor
attribute [local simp] BigFrame.eval_const BigFrame.eval_global BigFrame.eval_func
set_option linter.unusedVariables false
set_option linter.unusedSimpArgs false
open Go.RowKit

/-- The reference's bytes, put together by +. -/
theorem rb_le (n k : Nat) (hk : clampSize k = k) (hn : n < 18446744073709551616) (q : ByteArray) (hq : (⟨(le n k).toArray⟩ : ByteArray) = q) (w : World) :
    Calls Tryz.prog 70 #[.int .u64 n, .int .i64 k] w fun e w' => e = .returned (.string q) ∧ Below w.heap.size w w' := by
  have := Z3z n k w hn
  rw [hk, hq] at this
  exact this

theorem rb2 (n : Nat) (hn : n < 18446744073709551616) (q : ByteArray) (hq : (⟨(le n 2).toArray⟩ : ByteArray) = q) (w : World) :
    Calls Tryz.prog 70 #[.int .u64 n, .int .i64 2] w fun e w' => e = .returned (.string q) ∧ Below w.heap.size w w' := rb_le n 2 (by decide) hn q hq w
theorem rb4 (n : Nat) (hn : n < 18446744073709551616) (q : ByteArray) (hq : (⟨(le n 4).toArray⟩ : ByteArray) = q) (w : World) :
    Calls Tryz.prog 70 #[.int .u64 n, .int .i64 4] w fun e w' => e = .returned (.string q) ∧ Below w.heap.size w w' := rb_le n 4 (by decide) hn q hq w

set_option maxHeartbeats 3000000 in
theorem Z52 (g r a b c : Nat) (w : World) (h : HeadOk g r a b c) :
    Calls Tryz.prog 40 #[headV g r a b c] w fun e w' => e = .returned (.string ⟨(sealL (headL g r a b c)).toArray⟩) ∧ Below w.heap.size w w' := by
  obtain ⟨a1, a2, b1, b2, g1, g2, r1, r2, c1, c2⟩ := h
  obtain ⟨qa, hqa⟩ : ∃ q : ByteArray, (⟨(le a 2).toArray⟩ : ByteArray) = q := ⟨_, rfl⟩
  obtain ⟨qb, hqb⟩ : ∃ q : ByteArray, (⟨(le b 2).toArray⟩ : ByteArray) = q := ⟨_, rfl⟩
  obtain ⟨qg, hqg⟩ : ∃ q : ByteArray, (⟨(le g 4).toArray⟩ : ByteArray) = q := ⟨_, rfl⟩
  obtain ⟨qr, hqr⟩ : ∃ q : ByteArray, (⟨(le r 2).toArray⟩ : ByteArray) = q := ⟨_, rfl⟩
  obtain ⟨qs, hqs⟩ : ∃ q : ByteArray, (⟨(sealL (headL g r a b c)).toArray⟩ : ByteArray) = q := ⟨_, rfl⟩
  have HG := Lib.hid (fun W => rb4 g (by omega) qg hqg W)
  have HR := Lib.hid (fun W => rb2 r (by omega) qr hqr W)
  have HS := Lib.hid (fun W => Z7g (⟨#[84]⟩ ++ ⟨#[UInt8.ofNat c]⟩ ++ qa ++ qb ++ qg ++ qr) qs W (by rw [← hqa, ← hqb, ← hqg, ← hqr]; simp [ByteArray.size, Z0c]) (by rw [← hqs, ← hqa, ← hqb, ← hqg, ← hqr]; congr 2; simp [headL, le]))
  have ng : qg.size = 4 := by rw [← hqg]; simp [ByteArray.size, Z0c]
  have nr : qr.size = 2 := by rw [← hqr]; simp [ByteArray.size, Z0c]
  rw [hqs]
  clear hqg hqr hqs
  have HA := Lib.hid (fun W => rb2 a (by omega) qa hqa W)
  have HB := Lib.hid (fun W => rb2 b (by omega) qb hqb W)
  have na : qa.size = 2 := by rw [← hqa]; simp [ByteArray.size, Z0c]
  have nb : qb.size = 2 := by rw [← hqb]; simp [ByteArray.size, Z0c]
  clear hqa hqb
  have A0 := Blk.new w 39 #[.int .u64 g, .int .i64 r, .int .i64 a, .int .i64 b, .int .i64 c]
  have B0 : Below w.heap.size w (w.alloc (.cells #[.int .u64 g, .int .i64 r, .int .i64 a, .int .i64 b, .int .i64 c] 39)) := by (repeat (first | with_reducible exact Below.refl _ _ | with_reducible assumption | with_reducible apply Below.drew | with_reducible apply Z09 | (with_reducible refine Z0d ?_ ?_; focus ((try simp); (try omega); done)) | (with_reducible refine Z0e ?_ ?_; focus ((try simp); (try omega); done))))
  go_enter Tryz.func40, Tryz.ntmps40
  go_upto_region 1 with fail
  generalize w.alloc (.cells #[.int .u64 g, .int .i64 r, .int .i64 a, .int .i64 b, .int .i64 c] 39) = w0 at A0 B0 ⊢
  generalize hH : w.heap.size = H at A0 B0 ⊢
  have hc8 : IntKind.u8.wrap (c : Int) = ((UInt8.ofNat c).toNat : Int) := u8_of c
  have wa : IntKind.u64.wrap (a : Int) = (a : Int) := by simp [IntKind.wrap, IntKind.bits, IntKind.signed]; omega
  have wb : IntKind.u64.wrap (b : Int) = (b : Int) := by simp [IntKind.wrap, IntKind.bits, IntKind.signed]; omega
  have wr : IntKind.u64.wrap (r : Int) = (r : Int) := by simp [IntKind.wrap, IntKind.bits, IntKind.signed]; omega
  have hcv : ∀ (W : World) (G : Nat), W.cell? ⟨G, 0, none⟩ = some (.int .u8 (IntKind.u8.wrap c)) → (convert 81 9 (.slice (some ⟨G, 0, none⟩) 1 1)).run Tryz.prog W = .ok (.string ⟨#[UInt8.ofNat c]⟩) W := by
    intro W G hG
    refine Z21 W G 0 1 [UInt8.ofNat c] 1 rfl (fun i hi => ?_)
    obtain rfl : i = 0 := by omega
    rw [hc8] at hG
    exact hG
  have a2' := A0.cell 2
  have a3' := A0.cell 3
  have a4' := A0.cell 4
  have zA := A0.lt
  have HA0 := Lib.hid A0
  have HB0 := Lib.hid B0
  have HH := Lib.hid hH
  clear A0 B0 hH hc8
  refine Z0n (R := Ext) (w0 := w0) [[], [0], [0, 1], [0, 1, 2], [0, 1, 2, 3], [0, 1, 2, 3, 4], [], [6], [6, 7], [6, 7, 8], [6, 7, 8, 9], [0, 1, 2, 3, 4, 5, 6, 7, 8, 9, 10], [], [12], [12, 13], [12, 13, 14], [6, 7, 8, 9, 10, 12, 13, 14, 15], [0, 1, 2, 3, 4, 5, 6, 7, 8, 9, 10, 11, 12, 13, 14, 15, 16], [0, 1, 2, 3, 4, 5, 6, 7, 8, 9, 10, 11, 12, 13, 14, 15, 16, 17]] [4, 5, 6, 7, 8, 9, 10, 11, 12, 13, 14, 15, 16, 17, 18, 19, 20, 21, 3] Ext.refl (fun _ _ _ => Ext.trans) (Ext.drew _) (by kernel_rfl) ?_
  apply Build.det 4 Ext.refl (by rfl) (by rfl) rfl
  case h =>
    intro ax wx hE hR hF
    have e1 : ax.eval (.tmp 1) = .pointer (some ⟨H, 0, none⟩) := hE.eval 1 (by rfl) rfl
    simp [go_sem, ↓IntWalk.iteOmega, ev e1]
    with_reducible rfl
  apply Build.det 5 Ext.refl (by rfl) (by rfl) rfl
  case h =>
    intro ax wx hE hR hF
    have e4 := hF 0 (det 4 _) (by decide) (.head _)
    have B := HA0.out.ext hR; have q0 := B.cell 0; have q1 := B.cell 1; have q2 := B.cell 2; have q3 := B.cell 3; have q4 := B.cell 4
    simp [go_sem, ↓IntWalk.iteOmega, ev e4, q0, q1, q2, q3, q4]
    with_reducible rfl
  apply Build.det 6 Ext.refl (by rfl) (by rfl) rfl
  case h =>
    intro ax wx hE hR hF
    have e5 := hF 1 (det 5 _) (by decide) (.head _)
    simp [go_sem, ↓IntWalk.iteOmega, ev e5]
    with_reducible rfl
  refine Build.new 7 (fun v w => ∃ b, v = .slice (some ⟨b, 0, none⟩) 1 1 ∧ Blk w b 5 #[.int .u8 (IntKind.u8.wrap c)]) (fun v w w' hR ⟨b, h1, h2⟩ => ⟨b, h1, h2.ext hR⟩) (by rfl) (by rfl) rfl ?_ ?_
  · intro ax wx hE hR hF
    have e6 := hF 2 (det 6 _) (by decide) (.head _)
    exact ⟨_, _, by simp [go_sem, ev e6], Ext.alloc _ _, _, rfl, Blk.new _ _ _⟩
  apply Build.det 8 Ext.refl (by rfl) (by rfl) rfl
  case h =>
    intro ax wx hE hR hF
    have f7 := hF 3 _ (by decide) (.head _)
    obtain ⟨b, e7, hb⟩ := f7; simp [go_sem, ev e7]; rw [hcv wx b (hb.cell 0)]; rfl
  apply Build.det 9 Ext.refl (by rfl) (by rfl) rfl
  case h =>
    intro ax wx hE hR hF
    have e8 := hF 4 (det 8 _) (by decide) (.head _)
    simp [go_sem, ↓IntWalk.iteOmega, ev e8]
    with_reducible rfl
  apply Build.det 10 Ext.refl (by rfl) (by rfl) rfl
  case h =>
    intro ax wx hE hR hF
    have e1 : ax.eval (.tmp 1) = .pointer (some ⟨H, 0, none⟩) := hE.eval 1 (by rfl) rfl
    simp [go_sem, ↓IntWalk.iteOmega, ev e1]
    with_reducible rfl
  apply Build.det 11 Ext.refl (by rfl) (by rfl) rfl
  case h =>
    intro ax wx hE hR hF
    have e10 := hF 6 (det 10 _) (by decide) (.head _)
    simp [go_sem, ↓IntWalk.iteOmega, ev e10]
    with_reducible rfl
  apply Build.det 12 Ext.refl (by rfl) (by rfl) rfl
  case h =>
    intro ax wx hE hR hF
    have e11 := hF 7 (det 11 _) (by decide) (.head _)
    have B := HA0.out.ext hR; have q0 := B.cell 0; have q1 := B.cell 1; have q2 := B.cell 2; have q3 := B.cell 3; have q4 := B.cell 4
    simp [go_sem, ↓IntWalk.iteOmega, ev e11, q0, q1, q2, q3, q4]
    with_reducible rfl
  apply Build.det 13 Ext.refl (by rfl) (by rfl) rfl
  case h =>
    intro ax wx hE hR hF
    have e12 := hF 8 (det 12 _) (by decide) (.head _)
    simp [go_sem, ↓IntWalk.iteOmega, ev e12, wa]
    with_reducible rfl
  apply Build.call 14 Ext.refl (by rfl) (by rfl) rfl
  case h =>
    intro ax wx hE hR hF
    have e13 := hF 9 (det 13 _) (by decide) (.head _)
    simp [go_sem, ↓IntWalk.iteOmega, ev e13]
    with_reducible exact ⟨rfl, rfl⟩
  case hc => intro wx hR; with_reducible exact HA.out wx
  apply Build.det 15 Ext.refl (by rfl) (by rfl) rfl
  case h =>
    intro ax wx hE hR hF
    have e9 := hF 5 (det 9 _) (by decide) (.tail _ (.tail _ (.tail _ (.tail _ (.tail _ (.head _))))))
    have e14 := hF 10 (det 14 _) (by decide) (.head _)
    simp [go_sem, ↓IntWalk.iteOmega, ev e9, ev e14, na]
    with_reducible rfl
  apply Build.det 16 Ext.refl (by rfl) (by rfl) rfl
  case h =>
    intro ax wx hE hR hF
    have e1 : ax.eval (.tmp 1) = .pointer (some ⟨H, 0, none⟩) := hE.eval 1 (by rfl) rfl
    simp [go_sem, ↓IntWalk.iteOmega, ev e1]
    with_reducible rfl
  apply Build.det 17 Ext.refl (by rfl) (by rfl) rfl
  case h =>
    intro ax wx hE hR hF
    have e16 := hF 12 (det 16 _) (by decide) (.head _)
    simp [go_sem, ↓IntWalk.iteOmega, ev e16]
    with_reducible rfl
  apply Build.det 18 Ext.refl (by rfl) (by rfl) rfl
  case h =>
    intro ax wx hE hR hF
    have e17 := hF 13 (det 17 _) (by decide) (.head _)
    have B := HA0.out.ext hR; have q0 := B.cell 0; have q1 := B.cell 1; have q2 := B.cell 2; have q3 := B.cell 3; have q4 := B.cell 4
    simp [go_sem, ↓IntWalk.iteOmega, ev e17, q0, q1, q2, q3, q4]
    with_reducible rfl
  apply Build.det 19 Ext.refl (by rfl) (by rfl) rfl
  case h =>
    intro ax wx hE hR hF
    have e18 := hF 14 (det 18 _) (by decide) (.head _)
    simp [go_sem, ↓IntWalk.iteOmega, ev e18, wb]
    with_reducible rfl
  apply Build.call 20 Ext.refl (by rfl) (by rfl) rfl
  case h =>
    intro ax wx hE hR hF
    have e19 := hF 15 (det 19 _) (by decide) (.head _)
    simp [go_sem, ↓IntWalk.iteOmega, ev e19]
    with_reducible exact ⟨rfl, rfl⟩
  case hc => intro wx hR; with_reducible exact HB.out wx
  apply Build.det 21 Ext.refl (by rfl) (by rfl) rfl
  case h =>
    intro ax wx hE hR hF
    have e15 := hF 11 (det 15 _) (by decide) (.tail _ (.tail _ (.tail _ (.tail _ (.tail _ (.head _))))))
    have e20 := hF 16 (det 20 _) (by decide) (.head _)
    simp [go_sem, ↓IntWalk.iteOmega, ev e15, ev e20, na, nb]
    with_reducible rfl
  apply Build.det 3 Ext.refl (by rfl) (by rfl) rfl
  case h =>
    intro ax wx hE hR hF
    have e21 := hF 17 (det 21 _) (by decide) (.head _)
    simp [go_sem, ↓IntWalk.iteOmega, ev e21]
    with_reducible rfl
  apply Build.stop
  refine ⟨by kernel_rfl, .inl ⟨rfl, ?_⟩⟩
  intro ax w1 hE R1 hF
  have e4 := hF 0 (det 4 _) (.tail _ (.tail _ (.tail _ (.tail _ (.tail _ (.tail _ (.tail _ (.tail _ (.tail _ (.tail _ (.tail _ (.tail _ (.tail _ (.tail _ (.tail _ (.tail _ (.tail _ (.tail _ (.head _)))))))))))))))))))
  have e5 := hF 1 (det 5 _) (.tail _ (.tail _ (.tail _ (.tail _ (.tail _ (.tail _ (.tail _ (.tail _ (.tail _ (.tail _ (.tail _ (.tail _ (.tail _ (.tail _ (.tail _ (.tail _ (.tail _ (.head _))))))))))))))))))
  have e6 := hF 2 (det 6 _) (.tail _ (.tail _ (.tail _ (.tail _ (.tail _ (.tail _ (.tail _ (.tail _ (.tail _ (.tail _ (.tail _ (.tail _ (.tail _ (.tail _ (.tail _ (.tail _ (.head _)))))))))))))))))
  have f7 := hF 3 _ (.tail _ (.tail _ (.tail _ (.tail _ (.tail _ (.tail _ (.tail _ (.tail _ (.tail _ (.tail _ (.tail _ (.tail _ (.tail _ (.tail _ (.tail _ (.head _))))))))))))))))
  have e8 := hF 4 (det 8 _) (.tail _ (.tail _ (.tail _ (.tail _ (.tail _ (.tail _ (.tail _ (.tail _ (.tail _ (.tail _ (.tail _ (.tail _ (.tail _ (.tail _ (.head _)))))))))))))))
  have e9 := hF 5 (det 9 _) (.tail _ (.tail _ (.tail _ (.tail _ (.tail _ (.tail _ (.tail _ (.tail _ (.tail _ (.tail _ (.tail _ (.tail _ (.tail _ (.head _))))))))))))))
  have e10 := hF 6 (det 10 _) (.tail _ (.tail _ (.tail _ (.tail _ (.tail _ (.tail _ (.tail _ (.tail _ (.tail _ (.tail _ (.tail _ (.tail _ (.head _)))))))))))))
  have e11 := hF 7 (det 11 _) (.tail _ (.tail _ (.tail _ (.tail _ (.tail _ (.tail _ (.tail _ (.tail _ (.tail _ (.tail _ (.tail _ (.head _))))))))))))
  have e12 := hF 8 (det 12 _) (.tail _ (.tail _ (.tail _ (.tail _ (.tail _ (.tail _ (.tail _ (.tail _ (.tail _ (.tail _ (.head _)))))))))))
  have e13 := hF 9 (det 13 _) (.tail _ (.tail _ (.tail _ (.tail _ (.tail _ (.tail _ (.tail _ (.tail _ (.tail _ (.head _))))))))))
  have e14 := hF 10 (det 14 _) (.tail _ (.tail _ (.tail _ (.tail _ (.tail _ (.tail _ (.tail _ (.tail _ (.head _)))))))))
  have e15 := hF 11 (det 15 _) (.tail _ (.tail _ (.tail _ (.tail _ (.tail _ (.tail _ (.tail _ (.head _))))))))
  have e16 := hF 12 (det 16 _) (.tail _ (.tail _ (.tail _ (.tail _ (.tail _ (.tail _ (.head _)))))))
  have e17 := hF 13 (det 17 _) (.tail _ (.tail _ (.tail _ (.tail _ (.tail _ (.head _))))))
  have e18 := hF 14 (det 18 _) (.tail _ (.tail _ (.tail _ (.tail _ (.head _)))))
  have e19 := hF 15 (det 19 _) (.tail _ (.tail _ (.tail _ (.head _))))
  have e20 := hF 16 (det 20 _) (.tail _ (.tail _ (.head _)))
  have e21 := hF 17 (det 21 _) (.tail _ (.head _))
  have e3 := hF 18 (det 3 _) (.head _)
  obtain ⟨b, e7, -⟩ := f7
  rw [AllEq.frame (D := [4, 5, 6, 7, 8, 9, 10, 11, 12, 13, 14, 15, 16, 17, 18, 19, 20, 21, 3]) (AllEq.cons e4 (AllEq.cons e5 (AllEq.cons e6 (AllEq.cons e7 (AllEq.cons e8 (AllEq.cons e9 (AllEq.cons e10 (AllEq.cons e11 (AllEq.cons e12 (AllEq.cons e13 (AllEq.cons e14 (AllEq.cons e15 (AllEq.cons e16 (AllEq.cons e17 (AllEq.cons e18 (AllEq.cons e19 (AllEq.cons e20 (AllEq.cons e21 (AllEq.cons e3 (AllEq.nil)))))))))))))))))))) hE rfl]
  clear hF hE e4 e5 e6 e7 e8 e9 e10 e11 e12 e13 e14 e15 e16 e17 e18 e19 e20 e21 e3
  simp only [List.foldl_cons, List.foldl_nil, Act.put, List.setIfInBounds_toArray, List.set_cons_succ, List.set_cons_zero]
  go_wp2_with fail
  refine Z0n (R := Ext) (w0 := w1) [[], [], [1], [1, 2], [0, 1, 2, 3], [], [5], [5, 6], [1, 2, 3, 5, 6, 7], [0, 1, 2, 3, 4, 5, 6, 7, 8], [0, 1, 2, 3, 4, 5, 6, 7, 8, 9], [0, 1, 2, 3, 4, 5, 6, 7, 8, 9, 10]] [22, 23, 24, 25, 26, 27, 28, 29, 30, 31, 32, 2] Ext.refl (fun _ _ _ => Ext.trans) (Ext.drew _) (by kernel_rfl) ?_
  apply Build.det 22 Ext.refl (by rfl) (by rfl) rfl
  case h =>
    intro ax wx hE hR hF
    have e3 : ax.eval (.tmp 3) = .string (((⟨#[84]⟩ ++ ⟨#[UInt8.ofNat c]⟩) ++ qa) ++ qb) := hE.eval 3 (by rfl) rfl
    simp [go_sem, ↓IntWalk.iteOmega, ev e3]
    with_reducible rfl
  apply Build.det 23 Ext.refl (by rfl) (by rfl) rfl
  case h =>
    intro ax wx hE hR hF
    have e1 : ax.eval (.tmp 1) = .pointer (some ⟨H, 0, none⟩) := hE.eval 1 (by rfl) rfl
    simp [go_sem, ↓IntWalk.iteOmega, ev e1]
    with_reducible rfl
  apply Build.det 24 Ext.refl (by rfl) (by rfl) rfl
  case h =>
    intro ax wx hE hR hF
    have e23 := hF 1 (det 23 _) (by decide) (.head _)
    have B := (HA0.out.ext R1).ext hR; have q0 := B.cell 0; have q1 := B.cell 1; have q2 := B.cell 2; have q3 := B.cell 3; have q4 := B.cell 4
    simp [go_sem, ↓IntWalk.iteOmega, ev e23, q0, q1, q2, q3, q4]
    with_reducible rfl
  apply Build.call 25 Ext.refl (by rfl) (by rfl) rfl
  case h =>
    intro ax wx hE hR hF
    have e24 := hF 2 (det 24 _) (by decide) (.head _)
    simp [go_sem, ↓IntWalk.iteOmega, ev e24]
    with_reducible exact ⟨rfl, rfl⟩
  case hc => intro wx hR; with_reducible exact HG.out wx
  apply Build.det 26 Ext.refl (by rfl) (by rfl) rfl
  case h =>
    intro ax wx hE hR hF
    have e22 := hF 0 (det 22 _) (by decide) (.tail _ (.tail _ (.tail _ (.head _))))
    have e25 := hF 3 (det 25 _) (by decide) (.head _)
    simp [go_sem, ↓IntWalk.iteOmega, ev e22, ev e25, na, nb, ng]
    with_reducible rfl
  apply Build.det 27 Ext.refl (by rfl) (by rfl) rfl
  case h =>
    intro ax wx hE hR hF
    have e1 : ax.eval (.tmp 1) = .pointer (some ⟨H, 0, none⟩) := hE.eval 1 (by rfl) rfl
    simp [go_sem, ↓IntWalk.iteOmega, ev e1]
    with_reducible rfl
  apply Build.det 28 Ext.refl (by rfl) (by rfl) rfl
  case h =>
    intro ax wx hE hR hF
    have e27 := hF 5 (det 27 _) (by decide) (.head _)
    have B := (HA0.out.ext R1).ext hR; have q0 := B.cell 0; have q1 := B.cell 1; have q2 := B.cell 2; have q3 := B.cell 3; have q4 := B.cell 4
    simp [go_sem, ↓IntWalk.iteOmega, ev e27, q0, q1, q2, q3, q4]
    with_reducible rfl
  apply Build.det 29 Ext.refl (by rfl) (by rfl) rfl
  case h =>
    intro ax wx hE hR hF
    have e28 := hF 6 (det 28 _) (by decide) (.head _)
    simp [go_sem, ↓IntWalk.iteOmega, ev e28, wr]
    with_reducible rfl
  apply Build.call 30 Ext.refl (by rfl) (by rfl) rfl
  case h =>
    intro ax wx hE hR hF
    have e29 := hF 7 (det 29 _) (by decide) (.head _)
    simp [go_sem, ↓IntWalk.iteOmega, ev e29]
    with_reducible exact ⟨rfl, rfl⟩
  case hc => intro wx hR; with_reducible exact HR.out wx
  apply Build.det 31 Ext.refl (by rfl) (by rfl) rfl
  case h =>
    intro ax wx hE hR hF
    have e26 := hF 4 (det 26 _) (by decide) (.tail _ (.tail _ (.tail _ (.tail _ (.head _)))))
    have e30 := hF 8 (det 30 _) (by decide) (.head _)
    simp [go_sem, ↓IntWalk.iteOmega, ev e26, ev e30, na, nb, ng, nr]
    with_reducible rfl
  apply Build.call 32 Ext.refl (by rfl) (by rfl) rfl
  case h =>
    intro ax wx hE hR hF
    have e31 := hF 9 (det 31 _) (by decide) (.head _)
    simp [go_sem, ↓IntWalk.iteOmega, ev e31]
    with_reducible exact ⟨rfl, rfl⟩
  case hc => intro wx hR; with_reducible exact HS.out wx
  apply Build.det 2 Ext.refl (by rfl) (by rfl) rfl
  case h =>
    intro ax wx hE hR hF
    have e32 := hF 10 (det 32 _) (by decide) (.head _)
    simp [go_sem, ↓IntWalk.iteOmega, ev e32]
    with_reducible rfl
  apply Build.stop
  refine ⟨by kernel_rfl, .inl ⟨rfl, ?_⟩⟩
  intro ax w2 hE R2 hF
  have e22 := hF 0 (det 22 _) (.tail _ (.tail _ (.tail _ (.tail _ (.tail _ (.tail _ (.tail _ (.tail _ (.tail _ (.tail _ (.tail _ (.head _))))))))))))
  have e23 := hF 1 (det 23 _) (.tail _ (.tail _ (.tail _ (.tail _ (.tail _ (.tail _ (.tail _ (.tail _ (.tail _ (.tail _ (.head _)))))))))))
  have e24 := hF 2 (det 24 _) (.tail _ (.tail _ (.tail _ (.tail _ (.tail _ (.tail _ (.tail _ (.tail _ (.tail _ (.head _))))))))))
  have e25 := hF 3 (det 25 _) (.tail _ (.tail _ (.tail _ (.tail _ (.tail _ (.tail _ (.tail _ (.tail _ (.head _)))))))))
  have e26 := hF 4 (det 26 _) (.tail _ (.tail _ (.tail _ (.tail _ (.tail _ (.tail _ (.tail _ (.head _))))))))
  have e27 := hF 5 (det 27 _) (.tail _ (.tail _ (.tail _ (.tail _ (.tail _ (.tail _ (.head _)))))))
  have e28 := hF 6 (det 28 _) (.tail _ (.tail _ (.tail _ (.tail _ (.tail _ (.head _))))))
  have e29 := hF 7 (det 29 _) (.tail _ (.tail _ (.tail _ (.tail _ (.head _)))))
  have e30 := hF 8 (det 30 _) (.tail _ (.tail _ (.tail _ (.head _))))
  have e31 := hF 9 (det 31 _) (.tail _ (.tail _ (.head _)))
  have e32 := hF 10 (det 32 _) (.tail _ (.head _))
  have e2 := hF 11 (det 2 _) (.head _)
  rw [AllEq.frame (D := [22, 23, 24, 25, 26, 27, 28, 29, 30, 31, 32, 2]) (AllEq.cons e22 (AllEq.cons e23 (AllEq.cons e24 (AllEq.cons e25 (AllEq.cons e26 (AllEq.cons e27 (AllEq.cons e28 (AllEq.cons e29 (AllEq.cons e30 (AllEq.cons e31 (AllEq.cons e32 (AllEq.cons e2 (AllEq.nil))))))))))))) hE rfl]
  clear hF hE e22 e23 e24 e25 e26 e27 e28 e29 e30 e31 e32 e2
  simp only [List.foldl_cons, List.foldl_nil, Act.put, List.setIfInBounds_toArray, List.set_cons_succ, List.set_cons_zero]
  go_wp2_with fail
  go_ret
  exact ⟨rfl, by rw [HH.out]; exact (HB0.out.trans (R1.mono (Nat.le_of_lt zA))).trans (R2.mono (Nat.le_trans (Nat.le_of_lt zA) R1.size))⟩
end Go.Proofs.YtakkhglbdljfiaaGreatDoor

/- The walks of package head: Read. -/
namespace Go.Proofs.YtakkhglbdljfiaaGreatDoor
set_option linter.unusedVariables false
set_option linter.unusedSimpArgs false
open Go.RowKit

set_option maxHeartbeats 1000000 in
theorem Z4e (s : ByteArray) (w : World) (h : ∀ W : World, Calls Tryz.prog 95 #[.string s] W fun e w' => e = .returned (.tuple #[.string ⟨#[]⟩, .bool false]) ∧ Below W.heap.size W w') :
    Calls Tryz.prog 99 #[.string s] w fun e w' => e = .returned (.tuple #[headV 0 0 0 0 0, .int .i64 3]) ∧ Below w.heap.size w w' := by
  have H := Lib.hid h
  clear h
  go_enter Tryz.func99, Tryz.ntmps99
  go_wp2_with fail
  refine (H.out _).mono ?_
  rintro e w1 ⟨rfl, hw1⟩; obtain ⟨hcw1, hfw1⟩ := bcell hw1; have hsw1 := hw1.size; (try simp at hsw1)
  have z0 : w.heap.size < w1.heap.size := by omega
  have hb : Below w.heap.size w w1 := Below.trans (by (repeat (first | with_reducible exact Below.refl _ _ | with_reducible assumption | with_reducible apply Below.drew | with_reducible apply Z09 | (with_reducible refine Z0d ?_ ?_; focus ((try simp); (try omega); done)) | (with_reducible refine Z0e ?_ ?_; focus ((try simp); (try omega); done))))) (hw1.mono (by simp))
  go_wp2_with fail
  exact bodyPost_ret (v := .tuple #[headV 0 0 0 0 0, .int .i64 3]) (by simp [results, Tryz.results99, go_sem, hcw1, z0]) rfl ⟨rfl, by (repeat (first | with_reducible exact Below.refl _ _ | with_reducible assumption | with_reducible apply Below.drew | with_reducible apply Z09 | (with_reducible refine Z0d ?_ ?_; focus ((try simp); (try omega); done)) | (with_reducible refine Z0e ?_ ?_; focus ((try simp); (try omega); done))))⟩

theorem Z0z {w : World} {H : Nat} {x0 x1 x2 x3 x4 : Value} (h : Blk w H 39 #[x0, x1, x2, x3, x4]) (y0 y1 y2 y3 y4 : Value) :
    Blk (((((w.setCell ⟨H, 0, none⟩ y0).setCell ⟨H, 1, none⟩ y1).setCell ⟨H, 2, none⟩ y2).setCell ⟨H, 3, none⟩ y3).setCell ⟨H, 4, none⟩ y4) H 39 #[y0, y1, y2, y3, y4] := by
  have := ((((h.set_ 0 y0).set_ 1 y1).set_ 2 y2).set_ 3 y3).set_ 4 y4
  simpa using this

theorem Z31 {R : Ending → World → Prop} {ac : Act} {w : World} {H : Nat} {g : Nat} {r a b c x : Int} (h2 : ac.tmps[2]?.getD undef = .pointer (some ⟨H, 0, none⟩)) (h3 : ac.tmps[3]?.getD undef = .int .i64 x) (hd : ac.defers = [])
    (hF : Blk w H 39 #[.int .u64 g, .int .i64 r, .int .i64 a, .int .i64 b, .int .i64 c]) (hR : R (.returned (.tuple #[headV g r a b c, .int .i64 x])) w) : bodyPost Tryz.prog Tryz.f99 R .ret ac w := by
  obtain ⟨tm, df⟩ := ac
  simp only at h2 h3 hd
  have p0 := hF.cell 0
  have p1 := hF.cell 1
  have p2 := hF.cell 2
  have p3 := hF.cell 3
  have p4 := hF.cell 4
  exact bodyPost_ret (v := .tuple #[headV g r a b c, .int .i64 x]) (by simp [results, Tryz.results99, go_sem, h2, h3, p0, p1, p2, p3, p4]) hd hR

set_option maxHeartbeats 1000000 in
theorem hread_open (s T : ByteArray) (w : World) (h : ∀ W : World, Calls Tryz.prog 95 #[.string s] W fun e w' => e = .returned (.tuple #[.string T, .bool true]) ∧ Below W.heap.size W w')
    (kd c a b g r : Nat) (s1 s2 s3 s4 s5 st : List UInt8 × Bool) (e1 : getN (T.data.toList, false) 1 = (kd, s1)) (e2 : getN s1 1 = (c, s2)) (e3 : getN s2 2 = (a, s3)) (e4 : getN s3 2 = (b, s4)) (e5 : getN s4 4 = (g, s5)) (e6 : getN s5 2 = (r, st))
    (hT : T.size ≤ 1000000) (V : Value) (hV : V = if kd = 84 ∧ st = ([], false) ∧ HeadOk g r a b c then .tuple #[headV g r a b c, .int .i64 0] else .tuple #[headV 0 0 0 0 0, .int .i64 3]) :
    Calls Tryz.prog 99 #[.string s] w fun e w' => e = .returned V ∧ Below w.heap.size w w' := by
  have hTl : T.data.toList.length ≤ 1000000 := by simpa using hT
  have l1 : s1.1.length ≤ 1000000 := by have := Z20 (T.data.toList, false) 1; rw [e1] at this; simp only at this; omega
  have l2 : s2.1.length ≤ 1000000 := by have := Z20 s1 1; rw [e2] at this; simp only at this; omega
  have l3 : s3.1.length ≤ 1000000 := by have := Z20 s2 2; rw [e3] at this; simp only at this; omega
  have l4 : s4.1.length ≤ 1000000 := by have := Z20 s3 2; rw [e4] at this; simp only at this; omega
  have l5 : s5.1.length ≤ 1000000 := by have := Z20 s4 4; rw [e5] at this; simp only at this; omega
  have bc := Z5e s1 1
  have ba := Z5e s2 2
  have bb := Z5e s3 2
  have bg := Z5e s4 4
  have br := Z5e s5 2
  rw [e2] at bc
  rw [e3] at ba
  rw [e4] at bb
  rw [e5] at bg
  rw [e6] at br
  simp only [Nat.reducePow] at bc ba bb bg br
  have E1 := Lib.hid e1
  have E2 := Lib.hid e2
  have E3 := Lib.hid e3
  have E4 := Lib.hid e4
  have E5 := Lib.hid e5
  have E6 := Lib.hid e6
  have H := Lib.hid h
  have HV := Lib.hid hV
  clear hV
  obtain ⟨q, hq⟩ : ∃ q : Bool, ((kd : Int) == 84) = q := ⟨_, rfl⟩
  clear h e1 e2 e3 e4 e5 e6 hT
  go_enter Tryz.func99, Tryz.ntmps99
  go_wp2_with fail
  refine (H.out _).mono ?_
  rintro e w1 ⟨rfl, hw1⟩
  have hA : Blk w1 w.heap.size 39 #[.int .u64 0, .int .i64 0, .int .i64 0, .int .i64 0, .int .i64 0] := (Blk.new w 39 _).below hw1 (by simp)
  have hz := hA.lt
  have hb0 : Below w.heap.size w w1 := Below.trans (by (repeat (first | with_reducible exact Below.refl _ _ | with_reducible assumption | with_reducible apply Below.drew | with_reducible apply Z09 | (with_reducible refine Z0d ?_ ?_; focus ((try simp); (try omega); done)) | (with_reducible refine Z0e ?_ ?_; focus ((try simp); (try omega); done))))) (hw1.mono (by simp))
  have Hw1 := Lib.hid hb0
  have HA := Lib.hid hA
  clear hw1 H hb0 hA
  go_wp2_with fail
  refine (rs_of T w1).mono ?_
  rintro e w2 ⟨rfl, R0⟩
  go_wp2_with fail
  refine (Z5x R0 1 (by decide) (by decide) hTl).mono ?_
  rw [E1.out]
  rintro e w3 ⟨rfl, R1, -, z3⟩
  clear R0
  go_wp2_with fail
  refine (Z5x R1 1 (by decide) (by decide) l1).mono ?_
  rw [E2.out]
  rintro e w4 ⟨rfl, R2, -, z4⟩
  have hzB := R2.size
  clear R1
  have hR2 := Lib.hid R2
  clear R2
  go_wp2_with fail
  go_loopw [9, 27] (fun _ i wr => ∃ (j A' B' : Nat) (sj : List UInt8 × Bool), j ≤ 2 ∧ i = .int .i64 j ∧ Rs w1 w1.heap.size sj wr ∧ Blk wr w4.heap.size 39 #[.int .u64 0, .int .i64 0, .int .i64 A', .int .i64 B', .int .i64 c] ∧ Hid ((j = 0 → sj = s2 ∧ A' = 0 ∧ B' = 0) ∧ (j = 1 → sj = s3 ∧ A' = a ∧ B' = 0) ∧ (j = 2 → sj = s4 ∧ A' = a ∧ B' = b))) (fun _ i _ => 2 - (intOf i).toNat)
  case atStart =>
    refine ⟨0, 0, 0, s2, by omega, rfl, ?_, ?_, by simp [Hid]⟩
    · exact hR2.out.alloc _
    · exact Blk.new _ _ _
  case round =>
    obtain ⟨j, A', B', sj, hj, rfl, R, hD, HJ⟩ := hrel
    rcases (show j = 0 ∨ j = 1 ∨ j = 2 by omega) with rfl | rfl | rfl
    · obtain ⟨rfl, rfl, rfl⟩ := HJ.out.1 rfl
      go_wp2_with fail
      refine (Z5x R 2 (by decide) (by decide) l2).mono ?_
      rw [E3.out]
      rintro e w5 ⟨rfl, R3, hk5, z5⟩
      have hD5 := hk5 _ _ _ (by omega) hD
      clear R hD
      have f2 := hD5.frozen 2
      have q2 := hD5.cell 2
      go_wp2_with fail
      go_roundw
      case rel => exact ⟨1, a, 0, s3, by omega, rfl, R3.set_ _ (by simp; omega), hD5.set_ 2 _, by simp [Hid]⟩
      case measure => simp [intOf]
    · obtain ⟨rfl, rfl, rfl⟩ := HJ.out.2.1 rfl
      go_wp2_with fail
      refine (Z5x R 2 (by decide) (by decide) l3).mono ?_
      rw [E4.out]
      rintro e w5 ⟨rfl, R3, hk5, z5⟩
      have hD5 := hk5 _ _ _ (by omega) hD
      clear R hD
      have f3 := hD5.frozen 3
      have q3 := hD5.cell 3
      go_wp2_with fail
      go_roundw
      case rel => exact ⟨2, A', b, s4, by omega, rfl, R3.set_ _ (by simp; omega), hD5.set_ 3 _, by simp [Hid]⟩
      case measure => simp [intOf]
    · obtain ⟨rfl, rfl, rfl⟩ := HJ.out.2.2 rfl
      go_wp2_with fail
      refine (Z5x R 4 (by decide) (by decide) l4).mono ?_
      rw [E5.out]
      rintro e w5 ⟨rfl, R5, hk5, z5⟩
      have hD5 := hk5 _ _ _ (by omega) hD
      clear R hD hk5
      have f0 := hD5.frozen 0
      have q0 := hD5.cell 0
      have R5' := R5.set_ (p := ⟨w4.heap.size, 0, none⟩) (.int .u64 g) (by simp; omega)
      have hD5' := hD5.set_ 0 (.int .u64 g)
      have zz5 : w5.heap.size = (w5.setCell ⟨w4.heap.size, 0, none⟩ (.int .u64 g)).heap.size := by simp
      go_wp2_with fail
      refine (Z5x R5' 2 (by decide) (by decide) l5).mono ?_
      rw [E6.out]
      rintro e w6 ⟨rfl, R6, hk6, z6⟩
      have hD6 := hk6 _ _ _ (by omega) hD5'
      clear R5 R5' hD5 hD5' f0 q0 hk6
      have f1 := hD6.frozen 1
      have q1 := hD6.cell 1
      have R7 := R6.set_ (p := ⟨w4.heap.size, 1, none⟩) (.int .i64 r) (by simp; omega)
      have hD7 := hD6.set_ 1 (.int .i64 r)
      have zD := hD6.lt
      clear hD6 R6
      simp at hD7
      generalize hw7 : w6.setCell ⟨w4.heap.size, 1, none⟩ (.int .i64 r) = w7 at R7 hD7
      have zD7 := hD7.lt
      have A7 : Blk w7 w.heap.size 39 #[.int .u64 0, .int .i64 0, .int .i64 0, .int .i64 0, .int .i64 0] := HA.out.below R7.below hz
      have zA7 := A7.lt
      have B7 : Below w.heap.size w w7 := Hw1.out.trans (R7.below.mono (Nat.le_of_lt hz))
      have d0 := hD7.cell 0
      have d1 := hD7.cell 1
      have d2 := hD7.cell 2
      have d3 := hD7.cell 3
      have d4 := hD7.cell 4
      have a0 := A7.cell 0
      have a1 := A7.cell 1
      have a2 := A7.cell 2
      have a3 := A7.cell 3
      have a4 := A7.cell 4
      have y0 := A7.frozen 0
      have y1 := A7.frozen 1
      have y2 := A7.frozen 2
      have y3 := A7.frozen 3
      have y4 := A7.frozen 4
      have HR := Lib.hid R7
      have HB := Lib.hid B7
      clear R7 B7 HA HJ Hw1 hR2 z3 z4 zz5
      have HA7 := Lib.hid A7
      have HD7 := Lib.hid hD7
      clear A7 hD7
      cases q with
      | false =>
        have hk : ¬ kd = 84 := by intro e; subst e; simp at hq
        have hif : V = .tuple #[headV 0 0 0 0 0, .int .i64 3] := by rw [HV.out, if_neg (fun h => hk h.1)]
        have HI := Lib.hid hif
        clear hq hif HV
        go_wp2_with fail
        have hb7 := HB.out
        have hF := Z0z HA7.out (.int .u64 ((0 : Nat) : Int)) (.int .i64 0) (.int .i64 0) (.int .i64 0) (.int .i64 0)
        exact Z31 rfl rfl rfl hF ⟨by rw [HI.out] <;> rfl, by (repeat (first | with_reducible exact Below.refl _ _ | with_reducible assumption | with_reducible apply Below.drew | with_reducible apply Z09 | (with_reducible refine Z0d ?_ ?_; focus ((try simp); (try omega); done)) | (with_reducible refine Z0e ?_ ?_; focus ((try simp); (try omega); done))))⟩
      | true =>
        have hk : kd = 84 := by simp at hq; omega
        subst hk
        by_cases hst : st = ([], false)
        · subst hst
          by_cases hg : HeadOk g r A' B' c
          · have HG := Lib.hid (fun W => Z7t g r A' B' c W hg)
            have hif : V = .tuple #[headV g r A' B' c, .int .i64 0] := by rw [HV.out, if_pos ⟨rfl, rfl, hg⟩]
            have HI := Lib.hid hif
            clear hg hq hif HV
            go_wp2_with fail
            refine (Z5y HR.out).mono ?_
            rintro e w8 ⟨rfl, rfl⟩
            go_wp2_with fail
            refine (HG.out _).mono ?_
            rintro e w8 ⟨rfl, hw8⟩
            have A8 := HA7.out.below hw8 zA7
            have D8 := HD7.out.below hw8 zD7
            have B8 := HB.out.trans (hw8.mono (Nat.le_of_lt zA7))
            clear d0 d1 d2 d3 d4 a0 a1 a2 a3 a4 y0 y1 y2 y3 y4 HG
            have a0 := A8.cell 0
            have a1 := A8.cell 1
            have a2 := A8.cell 2
            have a3 := A8.cell 3
            have a4 := A8.cell 4
            have y0 := A8.frozen 0
            have y1 := A8.frozen 1
            have y2 := A8.frozen 2
            have y3 := A8.frozen 3
            have y4 := A8.frozen 4
            have d0 := D8.cell 0
            have d1 := D8.cell 1
            have d2 := D8.cell 2
            have d3 := D8.cell 3
            have d4 := D8.cell 4
            have HA8 := Lib.hid A8
            have HB8 := Lib.hid B8
            clear A8 B8 D8 hw8
            go_wp2_with fail
            have hb7 := HB8.out
            have hF := Z0z HA8.out (.int .u64 g) (.int .i64 r) (.int .i64 A') (.int .i64 B') (.int .i64 c)
            exact Z31 rfl rfl rfl hF ⟨by rw [HI.out] <;> rfl, by (repeat (first | with_reducible exact Below.refl _ _ | with_reducible assumption | with_reducible apply Below.drew | with_reducible apply Z09 | (with_reducible refine Z0d ?_ ?_; focus ((try simp); (try omega); done)) | (with_reducible refine Z0e ?_ ?_; focus ((try simp); (try omega); done))))⟩
          · have HG := Lib.hid (fun W => hgood_no g r A' B' c W hg)
            have hif : V = .tuple #[headV 0 0 0 0 0, .int .i64 3] := by rw [HV.out, if_neg (fun h => hg h.2.2)]
            have HI := Lib.hid hif
            clear hg hq hif HV
            go_wp2_with fail
            refine (Z5y HR.out).mono ?_
            rintro e w8 ⟨rfl, rfl⟩
            go_wp2_with fail
            refine (HG.out _).mono ?_
            rintro e w8 ⟨rfl, hw8⟩
            have A8 := HA7.out.below hw8 zA7
            have D8 := HD7.out.below hw8 zD7
            have B8 := HB.out.trans (hw8.mono (Nat.le_of_lt zA7))
            clear d0 d1 d2 d3 d4 a0 a1 a2 a3 a4 y0 y1 y2 y3 y4 HG
            have a0 := A8.cell 0
            have a1 := A8.cell 1
            have a2 := A8.cell 2
            have a3 := A8.cell 3
            have a4 := A8.cell 4
            have y0 := A8.frozen 0
            have y1 := A8.frozen 1
            have y2 := A8.frozen 2
            have y3 := A8.frozen 3
            have y4 := A8.frozen 4
            have d0 := D8.cell 0
            have d1 := D8.cell 1
            have d2 := D8.cell 2
            have d3 := D8.cell 3
            have d4 := D8.cell 4
            have HA8 := Lib.hid A8
            have HB8 := Lib.hid B8
            clear A8 B8 D8 hw8
            go_wp2_with fail
            have hb7 := HB8.out
            have hF := Z0z HA8.out (.int .u64 ((0 : Nat) : Int)) (.int .i64 0) (.int .i64 0) (.int .i64 0) (.int .i64 0)
            exact Z31 rfl rfl rfl hF ⟨by rw [HI.out] <;> rfl, by (repeat (first | with_reducible exact Below.refl _ _ | with_reducible assumption | with_reducible apply Below.drew | with_reducible apply Z09 | (with_reducible refine Z0d ?_ ?_; focus ((try simp); (try omega); done)) | (with_reducible refine Z0e ?_ ?_; focus ((try simp); (try omega); done))))⟩
        · have hif : V = .tuple #[headV 0 0 0 0 0, .int .i64 3] := by rw [HV.out, if_neg (fun h => hst h.2.1)]
          have HI := Lib.hid hif
          have HS := Lib.hid hst
          clear hq hif HV hst
          go_wp2_with fail
          refine (rs_end_no HR.out HS.out).mono ?_
          rintro e w8 ⟨rfl, rfl⟩
          go_wp2_with fail
          have hb7 := HB.out
          have hF := Z0z HA7.out (.int .u64 ((0 : Nat) : Int)) (.int .i64 0) (.int .i64 0) (.int .i64 0) (.int .i64 0)
          exact Z31 rfl rfl rfl hF ⟨by rw [HI.out] <;> rfl, by (repeat (first | with_reducible exact Below.refl _ _ | with_reducible assumption | with_reducible apply Below.drew | with_reducible apply Z09 | (with_reducible refine Z0d ?_ ?_; focus ((try simp); (try omega); done)) | (with_reducible refine Z0e ?_ ?_; focus ((try simp); (try omega); done))))⟩
end Go.Proofs.YtakkhglbdljfiaaGreatDoor

/- The walk of head's reference: Read. -/
namespace Go.Proofs.YtakkhglbdljfiaaGreatDoor
attribute [local simp] BigFrame.eval_const BigFrame.eval_global BigFrame.eval_func
set_option linter.unusedVariables false
set_option linter.unusedSimpArgs false
open Go.RowKit

theorem Z6x (s : ByteArray) (i j : Nat) (hij : j - i ≤ 8) (X : Nat) (hX : X = numL (s.extract i j).data.toList) (w : World) :
    Calls Tryz.prog 67 #[.string (s.extract i j)] w fun e w' => e = .returned (.int .u64 X) ∧ Ext w w' := by
  refine (Z69 (s.extract i j) w (by rw [ByteArray.size_extract]; omega)).mono ?_
  rintro e w' ⟨rfl, rfl⟩
  exact ⟨by rw [hX], Ext.refl _⟩

theorem Z2i {R : Ending → World → Prop} {ac : Act} {w : World} {H : Nat} {g : Nat} {r a b c : Int} {x : Bool} (h2 : ac.tmps[2]?.getD undef = .pointer (some ⟨H, 0, none⟩)) (h3 : ac.tmps[3]?.getD undef = .bool x) (hd : ac.defers = [])
    (hF : Blk w H 39 #[.int .u64 g, .int .i64 r, .int .i64 a, .int .i64 b, .int .i64 c]) (hR : R (.returned (.tuple #[headV g r a b c, .bool x])) w) : bodyPost Tryz.prog Tryz.f66 R .ret ac w := by
  obtain ⟨tm, df⟩ := ac
  simp only at h2 h3 hd
  have p0 := hF.cell 0
  have p1 := hF.cell 1
  have p2 := hF.cell 2
  have p3 := hF.cell 3
  have p4 := hF.cell 4
  exact bodyPost_ret (v := .tuple #[headV g r a b c, .bool x]) (by simp [results, Tryz.results66, go_sem, h2, h3, p0, p1, p2, p3, p4]) hd hR

theorem Z7k (s : ByteArray) (w : World) (hs : s.size ≠ 16) :
    Calls Tryz.prog 66 #[.string s] w fun e w' => e = .returned (.tuple #[headV 0 0 0 0 0, .bool false]) ∧ Below w.heap.size w w' := by
  have h1 : ((s.size : Int) != 16) = true := by simp; omega
  go_enter Tryz.func66, Tryz.ntmps66
  go_wp2_with fail
  exact Z2i (H := w.heap.size) (g := 0) (r := 0) (a := 0) (b := 0) (c := 0) (x := false) rfl rfl rfl (Blk.new w _ _) ⟨rfl, by (repeat (first | with_reducible exact Below.refl _ _ | with_reducible assumption | with_reducible apply Below.drew | with_reducible apply Z09 | (with_reducible refine Z0d ?_ ?_; focus ((try simp); (try omega); done)) | (with_reducible refine Z0e ?_ ?_; focus ((try simp); (try omega); done))))⟩

set_option maxRecDepth 100000 in
set_option maxHeartbeats 1000000 in
theorem rhread_16 (s : ByteArray) (w : World) (hs : s.size = 16) (g r a b c : Nat) (hg : g = numL (s.extract 6 10).data.toList) (hr : r = numL (s.extract 10 12).data.toList) (ha : a = numL (s.extract 2 4).data.toList) (hb : b = numL (s.extract 4 6).data.toList)
    (hc : c = (s.data.toList.getD 1 0).toNat) (V : Value) (hV : V = if HeadOk g r a b c ∧ sealL (headL g r a b c) = s.data.toList then .tuple #[headV g r a b c, .bool true] else .tuple #[headV 0 0 0 0 0, .bool false]) :
    Calls Tryz.prog 66 #[.string s] w fun e w' => e = .returned V ∧ Below w.heap.size w w' := by
  have HG := Lib.hid (Z6x s 6 10 (by decide) g hg)
  have HR := Lib.hid (Z6x s 10 12 (by decide) r hr)
  have HA := Lib.hid (Z6x s 2 4 (by decide) a ha)
  have HB := Lib.hid (Z6x s 4 6 (by decide) b hb)
  have ix := Z2c s 1 (by omega)
  rw [← UInt8.toNat_inj, ← hc] at ix
  have lr := Z2j (s.extract 10 12).data.toList
  have la := Z2j (s.extract 2 4).data.toList
  have lb := Z2j (s.extract 4 6).data.toList
  rw [← hr] at lr
  rw [← ha] at la
  rw [← hb] at lb
  simp [hs] at lr la lb
  have HV := Lib.hid hV
  have lc : c < 256 := by rw [hc]; exact UInt8.toNat_lt _
  clear hg hr ha hb hc hV
  have wr : IntKind.i64.wrap (r : Int) = (r : Int) := IntWalk.i64_in _ (by omega)
  have wc : IntKind.i64.wrap (c : Int) = (c : Int) := IntWalk.i64_in _ (by omega)
  have h1 : ((s.size : Int) != 16) = false := by simp [hs]
  have A0 := Blk.new w 39 #[.int .u64 0, .int .i64 0, .int .i64 0, .int .i64 0, .int .i64 0]
  have B0 : Below w.heap.size w (w.alloc (.cells #[.int .u64 0, .int .i64 0, .int .i64 0, .int .i64 0, .int .i64 0] 39)) := by (repeat (first | with_reducible exact Below.refl _ _ | with_reducible assumption | with_reducible apply Below.drew | with_reducible apply Z09 | (with_reducible refine Z0d ?_ ?_; focus ((try simp); (try omega); done)) | (with_reducible refine Z0e ?_ ?_; focus ((try simp); (try omega); done))))
  go_enter Tryz.func66, Tryz.ntmps66
  go_upto_region 3 with fail
  generalize w.alloc (.cells #[.int .u64 0, .int .i64 0, .int .i64 0, .int .i64 0, .int .i64 0] 39) = w0 at A0 B0 ⊢
  generalize hH : w.heap.size = H at A0 B0 ⊢
  have HA0 := Lib.hid A0
  have HB0 := Lib.hid B0
  have HH := Lib.hid hH
  have zA := A0.lt
  clear A0 B0 hH
  refine Z0n (R := Ext) (w0 := w0) [[], [0], [0, 1], [], [3], [3, 4], [], [6], [3, 4, 5, 6, 7], [3, 4, 5, 6, 7, 8], [0, 1, 2, 3, 4, 5, 6, 7, 8, 9], [], [0, 1, 2, 3, 4, 5, 6, 7, 8, 9, 10, 11]] [9, 10, 11, 12, 13, 14, 15, 16, 17, 18, 19, 4] Ext.refl (fun _ _ _ => Ext.trans) (Ext.drew _) (by kernel_rfl) ?_
  apply Build.det 9 Ext.refl (by rfl) (by rfl) rfl
  case h =>
    intro ax wx hE hR hF
    have e0 : ax.eval (.tmp 0) = .string s := hE.eval 0 (by rfl) rfl
    simp [go_sem, ↓IntWalk.iteOmega, ev e0]
    with_reducible rfl
  apply Build.det 10 Ext.refl (by rfl) (by rfl) rfl
  case h =>
    intro ax wx hE hR hF
    have e9 := hF 0 (det 9 _) (by decide) (.head _)
    simp [go_sem, ↓IntWalk.iteOmega, ev e9, hs, ix]
    with_reducible rfl
  apply Build.det 11 Ext.refl (by rfl) (by rfl) rfl
  case h =>
    intro ax wx hE hR hF
    have e10 := hF 1 (det 10 _) (by decide) (.head _)
    simp [go_sem, ↓IntWalk.iteOmega, ev e10, wc]
    with_reducible rfl
  apply Build.det 12 Ext.refl (by rfl) (by rfl) rfl
  case h =>
    intro ax wx hE hR hF
    have e0 : ax.eval (.tmp 0) = .string s := hE.eval 0 (by rfl) rfl
    simp [go_sem, ↓IntWalk.iteOmega, ev e0]
    with_reducible rfl
  apply Build.det 13 Ext.refl (by rfl) (by rfl) rfl
  case h =>
    intro ax wx hE hR hF
    have e12 := hF 3 (det 12 _) (by decide) (.head _)
    simp [go_sem, ↓IntWalk.iteOmega, ev e12, hs]
    with_reducible rfl
  apply Build.call 14 Ext.refl (by rfl) (by rfl) rfl
  case h =>
    intro ax wx hE hR hF
    have e13 := hF 4 (det 13 _) (by decide) (.head _)
    simp [go_sem, ↓IntWalk.iteOmega, ev e13]
    with_reducible exact ⟨rfl, rfl⟩
  case hc => intro wx hR; with_reducible exact HG.out wx
  apply Build.det 15 Ext.refl (by rfl) (by rfl) rfl
  case h =>
    intro ax wx hE hR hF
    have e0 : ax.eval (.tmp 0) = .string s := hE.eval 0 (by rfl) rfl
    simp [go_sem, ↓IntWalk.iteOmega, ev e0]
    with_reducible rfl
  apply Build.det 16 Ext.refl (by rfl) (by rfl) rfl
  case h =>
    intro ax wx hE hR hF
    have e15 := hF 6 (det 15 _) (by decide) (.head _)
    simp [go_sem, ↓IntWalk.iteOmega, ev e15, hs]
    with_reducible rfl
  apply Build.call 17 Ext.refl (by rfl) (by rfl) rfl
  case h =>
    intro ax wx hE hR hF
    have e16 := hF 7 (det 16 _) (by decide) (.head _)
    simp [go_sem, ↓IntWalk.iteOmega, ev e16]
    with_reducible exact ⟨rfl, rfl⟩
  case hc => intro wx hR; with_reducible exact HR.out wx
  apply Build.det 18 Ext.refl (by rfl) (by rfl) rfl
  case h =>
    intro ax wx hE hR hF
    have e17 := hF 8 (det 17 _) (by decide) (.head _)
    simp [go_sem, ↓IntWalk.iteOmega, ev e17, wr]
    with_reducible rfl
  apply Build.det 19 Ext.refl (by rfl) (by rfl) rfl
  case h =>
    intro ax wx hE hR hF
    have e11 := hF 2 (det 11 _) (by decide) (.tail _ (.tail _ (.tail _ (.tail _ (.tail _ (.tail _ (.tail _ (.head _))))))))
    have e14 := hF 5 (det 14 _) (by decide) (.tail _ (.tail _ (.tail _ (.tail _ (.head _)))))
    have e18 := hF 9 (det 18 _) (by decide) (.head _)
    simp [go_sem, ↓IntWalk.iteOmega, ev e11, ev e14, ev e18]
    with_reducible rfl
  refine Build.new 4 (fun v w => ∃ b, v = .pointer (some ⟨b, 0, none⟩) ∧ Blk w b 39 #[.int .u64 0, .int .i64 0, .int .i64 0, .int .i64 0, .int .i64 0] ∧ w0.heap.size ≤ b) (fun v w w' hR ⟨b, h1, h2, h3⟩ => ⟨b, h1, h2.ext hR, h3⟩) (by rfl) (by rfl) rfl ?_ ?_
  · intro ax wx hE hR hF
    exact ⟨_, _, by simp [go_sem], Ext.alloc _ _, _, rfl, Blk.new _ _ _, hR.size⟩
  apply Build.stop
  refine ⟨by kernel_rfl, .inr ⟨by kernel_rfl, _, rfl, rfl, ?_⟩⟩
  intro ax w1 hE R1 hF
  have e9 := hF 0 (det 9 _) (.tail _ (.tail _ (.tail _ (.tail _ (.tail _ (.tail _ (.tail _ (.tail _ (.tail _ (.tail _ (.tail _ (.head _))))))))))))
  have e10 := hF 1 (det 10 _) (.tail _ (.tail _ (.tail _ (.tail _ (.tail _ (.tail _ (.tail _ (.tail _ (.tail _ (.tail _ (.head _)))))))))))
  have e11 := hF 2 (det 11 _) (.tail _ (.tail _ (.tail _ (.tail _ (.tail _ (.tail _ (.tail _ (.tail _ (.tail _ (.head _))))))))))
  have e12 := hF 3 (det 12 _) (.tail _ (.tail _ (.tail _ (.tail _ (.tail _ (.tail _ (.tail _ (.tail _ (.head _)))))))))
  have e13 := hF 4 (det 13 _) (.tail _ (.tail _ (.tail _ (.tail _ (.tail _ (.tail _ (.tail _ (.head _))))))))
  have e14 := hF 5 (det 14 _) (.tail _ (.tail _ (.tail _ (.tail _ (.tail _ (.tail _ (.head _)))))))
  have e15 := hF 6 (det 15 _) (.tail _ (.tail _ (.tail _ (.tail _ (.tail _ (.head _))))))
  have e16 := hF 7 (det 16 _) (.tail _ (.tail _ (.tail _ (.tail _ (.head _)))))
  have e17 := hF 8 (det 17 _) (.tail _ (.tail _ (.tail _ (.head _))))
  have e18 := hF 9 (det 18 _) (.tail _ (.tail _ (.head _)))
  have e19 := hF 10 (det 19 _) (.tail _ (.head _))
  have f4 := hF 11 _ (.head _)
  obtain ⟨D, e4, hD, hDB⟩ := f4
  rw [AllEq.frame (D := [9, 10, 11, 12, 13, 14, 15, 16, 17, 18, 19, 4]) (AllEq.cons e9 (AllEq.cons e10 (AllEq.cons e11 (AllEq.cons e12 (AllEq.cons e13 (AllEq.cons e14 (AllEq.cons e15 (AllEq.cons e16 (AllEq.cons e17 (AllEq.cons e18 (AllEq.cons e19 (AllEq.cons e4 (AllEq.nil))))))))))))) hE rfl]
  clear hF hE e9 e10 e11 e12 e13 e14 e15 e16 e17 e18 e19 e4
  simp only [List.foldl_cons, List.foldl_nil, Act.put, List.setIfInBounds_toArray, List.set_cons_succ, List.set_cons_zero]
  have d0 := hD.cell 0
  have d1 := hD.cell 1
  have d2 := hD.cell 2
  have d3 := hD.cell 3
  have d4 := hD.cell 4
  have k0 := hD.frozen 0
  have k1 := hD.frozen 1
  have k2 := hD.frozen 2
  have k3 := hD.frozen 3
  have k4 := hD.frozen 4
  refine Z1d (by simp [go_sem, d0, d1, d2, d3, d4, k0, k1, k2, k3, k4]; rfl) ?_
  have S1 := Z0z hD (.int .u64 g) (.int .i64 r) (.int .i64 0) (.int .i64 0) (.int .i64 c)
  have zD := hD.lt
  have S0 := ((((((HA0.out.ext R1).far (p := ⟨D, 0, none⟩) (by simp; omega) (.int .u64 g)).far (p := ⟨D, 1, none⟩) (by simp; omega) (.int .i64 r)).far (p := ⟨D, 2, none⟩) (by simp; omega) (.int .i64 0)).far (p := ⟨D, 3, none⟩) (by simp; omega) (.int .i64 0)).far (p := ⟨D, 4, none⟩) (by simp; omega) (.int .i64 c))
  have B1 : Below H w w1 := HB0.out.trans (R1.mono (Nat.le_of_lt zA))
  have B2 : Below H w (((((w1.setCell ⟨D, 0, none⟩ (.int .u64 g)).setCell ⟨D, 1, none⟩ (.int .i64 r)).setCell ⟨D, 2, none⟩ (.int .i64 0)).setCell ⟨D, 3, none⟩ (.int .i64 0)).setCell ⟨D, 4, none⟩ (.int .i64 c)) := by
    have hHD : H ≤ D := by omega
    exact ((((B1.setCell hHD _).setCell hHD _).setCell hHD _).setCell hHD _).setCell hHD _
  generalize (((((w1.setCell ⟨D, 0, none⟩ (.int .u64 g)).setCell ⟨D, 1, none⟩ (.int .i64 r)).setCell ⟨D, 2, none⟩ (.int .i64 0)).setCell ⟨D, 3, none⟩ (.int .i64 0)).setCell ⟨D, 4, none⟩ (.int .i64 c)) = w2 at S0 S1 B2 ⊢
  have hHD : H < D := by omega
  clear d0 d1 d2 d3 d4 k0 k1 k2 k3 k4 hD R1 B1 hDB zA HG HR HA0 HB0 zD h1
  have q2 := S1.cell 2
  have u2 := S1.frozen 2
  go_wp2_with fail
  refine (HA.out _).mono ?_
  rintro e w3 ⟨rfl, R3⟩
  clear q2 u2
  have T0 := S0.ext R3
  have T1 := S1.ext R3
  have B3 := B2.trans (R3.mono (Nat.le_of_lt (Nat.lt_trans hHD S1.lt)))
  clear S0 S1 B2 R3
  have q2 := T1.cell 2
  have u2 := T1.frozen 2
  have U0 := T0.far (p := ⟨D, 2, none⟩) (by simp; omega) (.int .i64 a)
  have U1 := T1.set_ 2 (.int .i64 a)
  have B4 := B3.setCell (p := ⟨D, 2, none⟩) (Nat.le_of_lt hHD) (.int .i64 a)
  simp at U1
  go_wp2_with fail
  generalize w3.setCell ⟨D, 2, none⟩ (.int .i64 a) = w4 at U0 U1 B4 ⊢
  clear q2 u2 T0 T1 B3
  refine (HB.out _).mono ?_
  rintro e w5 ⟨rfl, R5⟩
  have T0 := U0.ext R5
  have T1 := U1.ext R5
  have B5 := B4.trans (R5.mono (Nat.le_of_lt (Nat.lt_trans hHD U1.lt)))
  clear U0 U1 B4 R5
  have q3 := T1.cell 3
  have u3 := T1.frozen 3
  have U0 := T0.far (p := ⟨D, 3, none⟩) (by simp; omega) (.int .i64 b)
  have U1 := T1.set_ 3 (.int .i64 b)
  have B6 := B5.setCell (p := ⟨D, 3, none⟩) (Nat.le_of_lt hHD) (.int .i64 b)
  simp at U1
  go_upto_region 6 with fail
  generalize w5.setCell ⟨D, 3, none⟩ (.int .i64 b) = w6 at U0 U1 B6 ⊢
  clear T0 T1 B5 HA HB q3 u3
  have x0 := U1.cell 0
  have x1 := U1.cell 1
  have x2 := U1.cell 2
  have x3 := U1.cell 3
  have x4 := U1.cell 4
  have zD := U1.lt
  have zH := U0.lt
  by_cases hok : HeadOk g r a b c
  · have GY := Lib.hid (fun W => Z61 g r a b c W hok)
    have RB := Lib.hid (fun W => Z52 g r a b c W hok)
    obtain ⟨q, hq⟩ : ∃ q : ByteArray, (⟨(sealL (headL g r a b c)).toArray⟩ : ByteArray) = q := ⟨_, rfl⟩
    rw [hq] at RB
    by_cases hqs : q = s
    · have hv : V = .tuple #[headV g r a b c, .bool true] := by rw [HV.out, if_pos ⟨hok, by rw [← hqs, ← hq]⟩]
      have HI := Lib.hid hv
      have heq : (q.toList == s.toList) = true := by rw [hqs]; simp
      clear hok hq hv HV hqs
      go_wp2_with fail
      refine (GY.out _).mono ?_
      rintro e w7 ⟨rfl, R7⟩
      have V0 := U0.ext R7
      have V1 := U1.ext R7
      have B7 := B6.trans (R7.mono (Nat.le_of_lt zH))
      clear x0 x1 x2 x3 x4 U0 U1 B6 R7
      have x0 := V1.cell 0
      have x1 := V1.cell 1
      have x2 := V1.cell 2
      have x3 := V1.cell 3
      have x4 := V1.cell 4
      have zH7 := V0.lt
      go_wp2_with fail
      refine (RB.out _).mono ?_
      rintro e w8 ⟨rfl, R8⟩
      have W0 := V0.ext R8
      have W1 := V1.ext R8
      have B8 := B7.trans (R8.mono (Nat.le_of_lt zH7))
      clear x0 x1 x2 x3 x4 V0 V1 B7 R8
      have x0 := W1.cell 0
      have x1 := W1.cell 1
      have x2 := W1.cell 2
      have x3 := W1.cell 3
      have x4 := W1.cell 4
      have y0 := W0.cell 0
      have y1 := W0.cell 1
      have y2 := W0.cell 2
      have y3 := W0.cell 3
      have y4 := W0.cell 4
      have f0 := W0.frozen 0
      have f1 := W0.frozen 1
      have f2 := W0.frozen 2
      have f3 := W0.frozen 3
      have f4 := W0.frozen 4
      go_wp2_with fail
      exact Z2i rfl rfl rfl (Z0z W0 (.int .u64 g) (.int .i64 r) (.int .i64 a) (.int .i64 b) (.int .i64 c)) ⟨by rw [HI.out] <;> rfl, by rw [HH.out]; (repeat (first | with_reducible exact Below.refl _ _ | with_reducible assumption | with_reducible apply Below.drew | with_reducible apply Z09 | (with_reducible refine Z0d ?_ ?_; focus ((try simp); (try omega); done)) | (with_reducible refine Z0e ?_ ?_; focus ((try simp); (try omega); done))))⟩
    · have hv : V = .tuple #[headV 0 0 0 0 0, .bool false] := by rw [HV.out, if_neg (fun e => hqs (Z2u (by rw [← hq]; simpa using e.2)))]
      have HI := Lib.hid hv
      have heq : (q.toList == s.toList) = false := Z76 hqs
      clear hok hq hv HV hqs
      go_wp2_with fail
      refine (GY.out _).mono ?_
      rintro e w7 ⟨rfl, R7⟩
      have V0 := U0.ext R7
      have V1 := U1.ext R7
      have B7 := B6.trans (R7.mono (Nat.le_of_lt zH))
      clear x0 x1 x2 x3 x4 U0 U1 B6 R7
      have x0 := V1.cell 0
      have x1 := V1.cell 1
      have x2 := V1.cell 2
      have x3 := V1.cell 3
      have x4 := V1.cell 4
      have zH7 := V0.lt
      go_wp2_with fail
      refine (RB.out _).mono ?_
      rintro e w8 ⟨rfl, R8⟩
      have W0 := V0.ext R8
      have W1 := V1.ext R8
      have B8 := B7.trans (R8.mono (Nat.le_of_lt zH7))
      clear x0 x1 x2 x3 x4 V0 V1 B7 R8
      have x0 := W1.cell 0
      have x1 := W1.cell 1
      have x2 := W1.cell 2
      have x3 := W1.cell 3
      have x4 := W1.cell 4
      have y0 := W0.cell 0
      have y1 := W0.cell 1
      have y2 := W0.cell 2
      have y3 := W0.cell 3
      have y4 := W0.cell 4
      have f0 := W0.frozen 0
      have f1 := W0.frozen 1
      have f2 := W0.frozen 2
      have f3 := W0.frozen 3
      have f4 := W0.frozen 4
      go_wp2_with fail
      exact Z2i rfl rfl rfl (Z0z W0 (.int .u64 ((0 : Nat) : Int)) (.int .i64 0) (.int .i64 0) (.int .i64 0) (.int .i64 0)) ⟨by rw [HI.out] <;> rfl, by rw [HH.out]; (repeat (first | with_reducible exact Below.refl _ _ | with_reducible assumption | with_reducible apply Below.drew | with_reducible apply Z09 | (with_reducible refine Z0d ?_ ?_; focus ((try simp); (try omega); done)) | (with_reducible refine Z0e ?_ ?_; focus ((try simp); (try omega); done))))⟩
  · have GN := Lib.hid (fun W => Z7l g r a b c W hok)
    have hv : V = .tuple #[headV 0 0 0 0 0, .bool false] := by rw [HV.out, if_neg (fun e => hok e.1)]
    have HI := Lib.hid hv
    clear hok hv HV
    go_wp2_with fail
    refine (GN.out _).mono ?_
    rintro e w7 ⟨rfl, R7⟩
    have W0 := U0.ext R7
    have B8 := B6.trans (R7.mono (Nat.le_of_lt zH))
    clear x0 x1 x2 x3 x4 U0 U1 B6 R7
    have y0 := W0.cell 0
    have y1 := W0.cell 1
    have y2 := W0.cell 2
    have y3 := W0.cell 3
    have y4 := W0.cell 4
    have f0 := W0.frozen 0
    have f1 := W0.frozen 1
    have f2 := W0.frozen 2
    have f3 := W0.frozen 3
    have f4 := W0.frozen 4
    go_wp2_with fail
    exact Z2i rfl rfl rfl (Z0z W0 (.int .u64 ((0 : Nat) : Int)) (.int .i64 0) (.int .i64 0) (.int .i64 0) (.int .i64 0)) ⟨by rw [HI.out] <;> rfl, by rw [HH.out]; (repeat (first | with_reducible exact Below.refl _ _ | with_reducible assumption | with_reducible apply Below.drew | with_reducible apply Z09 | (with_reducible refine Z0d ?_ ?_; focus ((try simp); (try omega); done)) | (with_reducible refine Z0e ?_ ?_; focus ((try simp); (try omega); done))))⟩
end Go.Proofs.YtakkhglbdljfiaaGreatDoor

/- The walk of head.Newest, of whatever reading gives. -/
namespace Go.Proofs.YtakkhglbdljfiaaGreatDoor
set_option linter.unusedVariables false
set_option linter.unusedSimpArgs false
open Go.RowKit

/-- What a reading gives: a head, or none (then its cells are zeros). -/
structure HeadR where
  ok : Bool
  g : Nat
  r : Int
  a : Int
  b : Int
  c : Int
def HeadR.none : HeadR := ⟨false, 0, 0, 0, 0, 0⟩
abbrev HeadR.v (x : HeadR) : Value := headV x.g x.r x.a x.b x.c
def HeadR.e (x : HeadR) : Int := if x.ok then 0 else 3
def Reads (s : ByteArray) (x : HeadR) : Prop := ∀ w : World, Calls Tryz.prog 99 #[.string s] w fun e w' => e = .returned (.tuple #[x.v, .int .i64 x.e]) ∧ Below w.heap.size w w'

/-- The newest of two readings. -/
def newest (x y : HeadR) : HeadR × Int :=
  if x.ok = true ∧ (y.ok = false ∨ y.g ≤ x.g) then (x, 0) else if y.ok = true then (y, 1) else (.none, 0)

theorem Z1z {R : Ending → World → Prop} {ac : Act} {w : World} {H : Nat} {g : Nat} {r a b c x y : Int} (h2 : ac.tmps[4]?.getD undef = .pointer (some ⟨H, 0, none⟩)) (h3 : ac.tmps[5]?.getD undef = .int .i64 x) (h4 : ac.tmps[6]?.getD undef = .int .i64 y) (hd : ac.defers = [])
    (hF : Blk w H 39 #[.int .u64 g, .int .i64 r, .int .i64 a, .int .i64 b, .int .i64 c]) (hR : R (.returned (.tuple #[headV g r a b c, .int .i64 x, .int .i64 y])) w) : bodyPost Tryz.prog Tryz.f65 R .ret ac w := by
  obtain ⟨tm, df⟩ := ac
  simp only at h2 h3 h4 hd
  have p0 := hF.cell 0
  have p1 := hF.cell 1
  have p2 := hF.cell 2
  have p3 := hF.cell 3
  have p4 := hF.cell 4
  exact bodyPost_ret (v := .tuple #[headV g r a b c, .int .i64 x, .int .i64 y]) (by simp [results, Tryz.results65, go_sem, h2, h3, h4, p0, p1, p2, p3, p4]) hd hR

set_option maxHeartbeats 1000000 in
theorem newest_any (s t : ByteArray) (x y : HeadR) (hx : Reads s x) (hy : Reads t y) (w : World) (V : Value) (hV : V = .tuple #[(newest x y).1.v, .int .i64 (newest x y).2, .int .i64 (newest x y).1.e]) :
    Calls Tryz.prog 65 #[.string s, .string t] w fun e w' => e = .returned V ∧ Below w.heap.size w w' := by
  have HV := Lib.hid hV
  clear hV
  obtain ⟨xo, xg, xr, xa, xb, xc⟩ := x
  obtain ⟨yo, yg, yr, ya, yb, yc⟩ := y
  unfold Reads at hx hy
  simp only [HeadR.v, HeadR.e] at hx hy
  generalize hxe : (if xo = true then (0 : Int) else 3) = xe at hx
  generalize hye : (if yo = true then (0 : Int) else 3) = ye at hy
  have HX := Lib.hid hx
  have HY := Lib.hid hy
  clear hx hy
  have vx : xo = true → (yo = false ∨ yg ≤ xg) → V = .tuple #[headV xg xr xa xb xc, .int .i64 0, .int .i64 0] := by
    intro h1 h2; rw [HV.out]; unfold newest; rw [if_pos ⟨h1, h2⟩]; simp [HeadR.v, HeadR.e, h1]
  have vy : ¬ (xo = true ∧ (yo = false ∨ yg ≤ xg)) → yo = true → V = .tuple #[headV yg yr ya yb yc, .int .i64 1, .int .i64 0] := by
    intro h1 h2; rw [HV.out]; unfold newest; rw [if_neg h1, if_pos h2]; simp [HeadR.v, HeadR.e, h2]
  have vz : xo = false → yo = false → V = .tuple #[headV 0 0 0 0 0, .int .i64 0, .int .i64 3] := by
    intro h1 h2; rw [HV.out]; subst h1 h2; rfl
  have VX := Lib.hid vx
  have VY := Lib.hid vy
  have VZ := Lib.hid vz
  clear vx vy vz HV
  go_enter Tryz.func65, Tryz.ntmps65
  go_wp2_with fail
  refine (HX.out _).mono ?_
  rintro e w1 ⟨rfl, hw1⟩
  have hA : Blk w1 w.heap.size 39 #[.int .u64 0, .int .i64 0, .int .i64 0, .int .i64 0, .int .i64 0] := (Blk.new w 39 _).below hw1 (by simp)
  have hz := hA.lt
  have hb1 : Below w.heap.size w w1 := Below.trans (by (repeat (first | with_reducible exact Below.refl _ _ | with_reducible assumption | with_reducible apply Below.drew | with_reducible apply Z09 | (with_reducible refine Z0d ?_ ?_; focus ((try simp); (try omega); done)) | (with_reducible refine Z0e ?_ ?_; focus ((try simp); (try omega); done))))) (hw1.mono (by simp))
  have HA := Lib.hid hA
  have HB := Lib.hid hb1
  clear hw1 hb1 hA
  go_wp2_with fail
  refine (HY.out _).mono ?_
  rintro e w2 ⟨rfl, hw2⟩
  have X2 : Blk w2 w1.heap.size 39 #[.int .u64 xg, .int .i64 xr, .int .i64 xa, .int .i64 xb, .int .i64 xc] := (Blk.new w1 39 _).below hw2 (by simp)
  have A2 : Blk w2 w.heap.size 39 #[.int .u64 0, .int .i64 0, .int .i64 0, .int .i64 0, .int .i64 0] := (HA.out.alloc (.cells #[.int .u64 xg, .int .i64 xr, .int .i64 xa, .int .i64 xb, .int .i64 xc] 39)).below hw2 (by simp; omega)
  have B2 : Below w.heap.size w w2 := (HB.out.alloc (Nat.le_of_lt hz) (.cells #[.int .u64 xg, .int .i64 xr, .int .i64 xa, .int .i64 xb, .int .i64 xc] 39)).trans (hw2.mono (by simp; omega))
  have hsz2 := X2.lt
  have zA2 := A2.lt
  have X3 := X2.alloc (.cells #[.int .u64 yg, .int .i64 yr, .int .i64 ya, .int .i64 yb, .int .i64 yc] 39)
  have A3 := A2.alloc (.cells #[.int .u64 yg, .int .i64 yr, .int .i64 ya, .int .i64 yb, .int .i64 yc] 39)
  have Y3 := Blk.new w2 39 #[.int .u64 yg, .int .i64 yr, .int .i64 ya, .int .i64 yb, .int .i64 yc]
  have B3 := B2.alloc (Nat.le_of_lt zA2) (.cells #[.int .u64 yg, .int .i64 yr, .int .i64 ya, .int .i64 yb, .int .i64 yc] 39)
  have HX2 := Lib.hid X3
  have HA2 := Lib.hid A3
  have HY2 := Lib.hid Y3
  have HB2 := Lib.hid B3
  clear A2 B2 X2 hw2 HA HB HX HY X3 A3 Y3 B3
  go_upto_region 3 with fail
  generalize w2.alloc (.cells #[.int .u64 yg, .int .i64 yr, .int .i64 ya, .int .i64 yb, .int .i64 yc] 39) = w3 at HX2 HA2 HY2 HB2 ⊢
  have x0 := HX2.out.cell 0
  have x1 := HX2.out.cell 1
  have x2 := HX2.out.cell 2
  have x3 := HX2.out.cell 3
  have x4 := HX2.out.cell 4
  have v0 := HY2.out.cell 0
  have v1 := HY2.out.cell 1
  have v2 := HY2.out.cell 2
  have v3 := HY2.out.cell 3
  have v4 := HY2.out.cell 4
  have a0 := HA2.out.cell 0
  have a1 := HA2.out.cell 1
  have a2 := HA2.out.cell 2
  have a3 := HA2.out.cell 3
  have a4 := HA2.out.cell 4
  have y0 := HA2.out.frozen 0
  have y1 := HA2.out.frozen 1
  have y2 := HA2.out.frozen 2
  have y3 := HA2.out.frozen 3
  have y4 := HA2.out.frozen 4
  cases xo with
  | true =>
    obtain rfl : xe = 0 := by rw [← hxe]; rfl
    cases yo with
    | true =>
      obtain rfl : ye = 0 := by rw [← hye]; rfl
      by_cases hc : yg ≤ xg
      · have hif : V = .tuple #[headV xg xr xa xb xc, .int .i64 0, .int .i64 0] := VX.out rfl (.inr hc)
        have HI := Lib.hid hif
        clear hif VX VY VZ
        go_wp2_with fail
        have hb7 := HB2.out
        exact Z1z rfl rfl rfl rfl (Z0z HA2.out (.int .u64 xg) (.int .i64 xr) (.int .i64 xa) (.int .i64 xb) (.int .i64 xc)) ⟨by rw [HI.out] <;> rfl, by (repeat (first | with_reducible exact Below.refl _ _ | with_reducible assumption | with_reducible apply Below.drew | with_reducible apply Z09 | (with_reducible refine Z0d ?_ ?_; focus ((try simp); (try omega); done)) | (with_reducible refine Z0e ?_ ?_; focus ((try simp); (try omega); done))))⟩
      · have hc2 : xg < yg := by omega
        have hif : V = .tuple #[headV yg yr ya yb yc, .int .i64 1, .int .i64 0] := VY.out (fun h => by rcases h.2 with h | h; cases h; omega) rfl
        have HI := Lib.hid hif
        clear hif VX VY VZ
        go_wp2_with fail
        have hb7 := HB2.out
        exact Z1z rfl rfl rfl rfl (Z0z HA2.out (.int .u64 yg) (.int .i64 yr) (.int .i64 ya) (.int .i64 yb) (.int .i64 yc)) ⟨by rw [HI.out] <;> rfl, by (repeat (first | with_reducible exact Below.refl _ _ | with_reducible assumption | with_reducible apply Below.drew | with_reducible apply Z09 | (with_reducible refine Z0d ?_ ?_; focus ((try simp); (try omega); done)) | (with_reducible refine Z0e ?_ ?_; focus ((try simp); (try omega); done))))⟩
    | false =>
      obtain rfl : ye = 3 := by rw [← hye]; rfl
      have hif : V = .tuple #[headV xg xr xa xb xc, .int .i64 0, .int .i64 0] := VX.out rfl (.inl rfl)
      have HI := Lib.hid hif
      clear hif VX VY VZ
      go_wp2_with fail
      have hb7 := HB2.out
      exact Z1z rfl rfl rfl rfl (Z0z HA2.out (.int .u64 xg) (.int .i64 xr) (.int .i64 xa) (.int .i64 xb) (.int .i64 xc)) ⟨by rw [HI.out] <;> rfl, by (repeat (first | with_reducible exact Below.refl _ _ | with_reducible assumption | with_reducible apply Below.drew | with_reducible apply Z09 | (with_reducible refine Z0d ?_ ?_; focus ((try simp); (try omega); done)) | (with_reducible refine Z0e ?_ ?_; focus ((try simp); (try omega); done))))⟩
  | false =>
    obtain rfl : xe = 3 := by rw [← hxe]; rfl
    cases yo with
    | true =>
      obtain rfl : ye = 0 := by rw [← hye]; rfl
      have hif : V = .tuple #[headV yg yr ya yb yc, .int .i64 1, .int .i64 0] := VY.out (fun h => by cases h.1) rfl
      have HI := Lib.hid hif
      clear hif VX VY VZ
      go_wp2_with fail
      have hb7 := HB2.out
      exact Z1z rfl rfl rfl rfl (Z0z HA2.out (.int .u64 yg) (.int .i64 yr) (.int .i64 ya) (.int .i64 yb) (.int .i64 yc)) ⟨by rw [HI.out] <;> rfl, by (repeat (first | with_reducible exact Below.refl _ _ | with_reducible assumption | with_reducible apply Below.drew | with_reducible apply Z09 | (with_reducible refine Z0d ?_ ?_; focus ((try simp); (try omega); done)) | (with_reducible refine Z0e ?_ ?_; focus ((try simp); (try omega); done))))⟩
    | false =>
      obtain rfl : ye = 3 := by rw [← hye]; rfl
      have hif : V = .tuple #[headV 0 0 0 0 0, .int .i64 0, .int .i64 3] := VZ.out rfl rfl
      have HI := Lib.hid hif
      clear hif VX VY VZ
      go_wp2_with fail
      have hb7 := HB2.out
      exact Z1z rfl rfl rfl rfl (Z0z HA2.out (.int .u64 ((0 : Nat) : Int)) (.int .i64 0) (.int .i64 0) (.int .i64 0) (.int .i64 0)) ⟨by rw [HI.out] <;> rfl, by (repeat (first | with_reducible exact Below.refl _ _ | with_reducible assumption | with_reducible apply Below.drew | with_reducible apply Z09 | (with_reducible refine Z0d ?_ ?_; focus ((try simp); (try omega); done)) | (with_reducible refine Z0e ?_ ?_; focus ((try simp); (try omega); done))))⟩

def hG (L : List UInt8) : Nat := numL ((L.drop 6).take 4)
def hR (L : List UInt8) : Nat := numL ((L.drop 10).take 2)
def hA (L : List UInt8) : Nat := numL ((L.drop 2).take 2)
def hB (L : List UInt8) : Nat := numL ((L.drop 4).take 2)
def hC (L : List UInt8) : Nat := (L.getD 1 0).toNat
def headOf (L : List UInt8) : List UInt8 := headL (hG L) (hR L) (hA L) (hB L) (hC L)
abbrev HeadIs (L : List UInt8) : Prop := L.length = 16 ∧ HeadOk (hG L) (hR L) (hA L) (hB L) (hC L) ∧ sealL (headOf L) = L
def hdRead (L : List UInt8) : HeadR := if HeadIs L then ⟨true, hG L, hR L, hA L, hB L, hC L⟩ else .none

def RReads (s : ByteArray) (x : HeadR) : Prop := ∀ w : World, Calls Tryz.prog 66 #[.string s] w fun e w' => e = .returned (.tuple #[x.v, .bool x.ok]) ∧ Below w.heap.size w w'

theorem Z5z (s : ByteArray) : RReads s (hdRead s.data.toList) := by
  intro w
  have hl : s.data.toList.length = s.size := by simp
  by_cases hs : s.size = 16
  · refine rhread_16 s w hs (hG s.data.toList) (hR s.data.toList) (hA s.data.toList) (hB s.data.toList) (hC s.data.toList) ?_ ?_ ?_ ?_ rfl _ ?_
    · rw [Lib.extract_data]; rfl
    · rw [Lib.extract_data]; rfl
    · rw [Lib.extract_data]; rfl
    · rw [Lib.extract_data]; rfl
    · unfold hdRead HeadIs
      by_cases h : HeadOk (hG s.data.toList) (hR s.data.toList) (hA s.data.toList) (hB s.data.toList) (hC s.data.toList) ∧ sealL (headOf s.data.toList) = s.data.toList
      · rw [if_pos ⟨hl.trans hs, h⟩, if_pos (by exact h)]
      · rw [if_neg (fun e => h e.2), if_neg (by exact h)]; rfl
  · have : hdRead s.data.toList = .none := by
      unfold hdRead; rw [if_neg (fun e => hs (hl.symm.trans e.1))]
    rw [this]
    exact Z7k s w hs

theorem Z1w {st : List UInt8 × Bool} {k n : Nat} {l : List UInt8} (h : getN st k = (n, (l, false))) : st.2 = false ∧ st.1.length = k + l.length := by
  unfold getN at h
  split at h
  · rename_i hk
    simp only [Prod.mk.injEq] at h
    obtain ⟨_, h1, h2⟩ := h
    refine ⟨h2, ?_⟩
    rw [← h1, List.length_drop]
    omega
  · simp at h
theorem Z33 (l : List UInt8) (k : Nat) (h : k ≤ l.length) : getN (l, false) k = (numL (l.take k), (l.drop k, false)) := by
  unfold getN; rw [if_pos h]
theorem take_at (l : List UInt8) (k : Nat) (h : k < l.length) : (l.drop k).take 1 = [l.getD k 0] := by
  rw [List.drop_eq_getElem_cons h, List.take_succ_cons, List.take_zero]
  simp [List.getD, List.getElem?_eq_getElem h]
theorem Z4p (x : UInt8) : numL [x] = x.toNat := by simp [numL]
theorem Z5c (l : List UInt8) (k n : Nat) (h : k + n ≤ l.length) : le (numL ((l.drop k).take n)) n = (l.drop k).take n := by
  have := Z70 ((l.drop k).take n)
  rwa [show ((l.drop k).take n).length = n by rw [List.length_take, List.length_drop]; omega] at this

/-- Twelve bytes are a head's parts. -/
theorem twelve (T : List UInt8) (h : T.length = 12) : T = le (numL (T.take 1)) 1 ++ le (T.getD 1 0).toNat 1 ++ le (numL ((T.drop 2).take 2)) 2 ++ le (numL ((T.drop 4).take 2)) 2 ++ le (numL ((T.drop 6).take 4)) 4 ++ le (numL ((T.drop 10).take 2)) 2 := by
  rw [Z5c T 2 2 (by omega), Z5c T 4 2 (by omega), Z5c T 6 4 (by omega), Z5c T 10 2 (by omega)]
  have h0 := Z5c T 0 1 (by omega)
  rw [List.drop_zero] at h0
  rw [h0]
  match T, h with
  | [a, b, c, d, e, f, g, i, j, k, l, m], _ =>
    have : le b.toNat 1 = [b] := by
      have := Z70 [b]
      rwa [Z4p] at this
    simp [this]

theorem Z7d {a b : List UInt8} (h : sealL a = sealL b) : a = b := by
  have hl := congrArg List.length h
  rw [Z1r, Z1r] at hl
  unfold sealL at h
  exact (List.append_inj h (by omega)).1
theorem sealL_take (a : List UInt8) : (sealL a).take a.length = a := by unfold sealL; rw [List.take_left']; rfl

theorem hreads_any (s : ByteArray) (hs : s.size ≤ 1000000) : Reads s (hdRead s.data.toList) := by
  intro w
  have hl : s.data.toList.length = s.size := by simp
  generalize hL : s.data.toList = L at hl
  by_cases h4 : s.size < 4
  · have : hdRead L = .none := by unfold hdRead; rw [if_neg (fun e => by have := e.1; omega)]
    rw [this]
    exact Z4e s w (fun W => (Z68 s W h4))
  · by_cases ho : sealL (s.data.toList.take (s.size - 4)) = s.data.toList
    · have hop := fun W => open_yes s W (by omega) (by omega) ho
      rw [hL] at ho hop
      obtain ⟨T, hT⟩ : ∃ T, T = L.take (s.size - 4) := ⟨_, rfl⟩
      have hTl : T.length = s.size - 4 := by rw [hT, List.length_take]; omega
      rw [← hT] at ho hop
      rcases e1 : getN (T, false) 1 with ⟨kd, s1⟩
      rcases e2 : getN s1 1 with ⟨c, s2⟩
      rcases e3 : getN s2 2 with ⟨a, s3⟩
      rcases e4 : getN s3 2 with ⟨b, s4⟩
      rcases e5 : getN s4 4 with ⟨g, s5⟩
      rcases e6 : getN s5 2 with ⟨r, st⟩
      refine hread_open s ⟨T.toArray⟩ w hop kd c a b g r s1 s2 s3 s4 s5 st e1 e2 e3 e4 e5 e6 (by show T.toArray.size ≤ _; rw [List.size_toArray]; omega) _ ?_
      by_cases h12 : T.length = 12
      · rw [Z33 T 1 (by omega)] at e1
        obtain ⟨rfl, rfl⟩ := Prod.mk.inj e1
        rw [Z33 _ 1 (by rw [List.length_drop]; omega)] at e2
        obtain ⟨hc, rfl⟩ := Prod.mk.inj e2
        rw [List.drop_drop] at e3
        rw [Z33 _ 2 (by rw [List.length_drop]; omega)] at e3
        obtain ⟨ha, rfl⟩ := Prod.mk.inj e3
        rw [List.drop_drop] at e4
        rw [Z33 _ 2 (by rw [List.length_drop]; omega)] at e4
        obtain ⟨hb, rfl⟩ := Prod.mk.inj e4
        rw [List.drop_drop] at e5
        rw [Z33 _ 4 (by rw [List.length_drop]; omega)] at e5
        obtain ⟨hg, rfl⟩ := Prod.mk.inj e5
        rw [List.drop_drop] at e6
        rw [Z33 _ 2 (by rw [List.length_drop]; omega)] at e6
        obtain ⟨hr, rfl⟩ := Prod.mk.inj e6
        simp only [Nat.reduceAdd] at ha hb hg hr hc
        have hdrop : ∀ k n, k + n ≤ 12 → (L.drop k).take n = (T.drop k).take n := by
          intro k n hkn
          rw [← ho]
          unfold sealL
          rw [List.drop_append_of_le_length (by omega), List.take_append_of_le_length (by rw [List.length_drop]; omega)]
        have c1 : hC L = c := by
          have h1 := hdrop 1 1 (by omega)
          rw [← hc, ← h1]
          unfold hC
          rw [take_at L 1 (by omega), Z4p]
        have g1 : hG L = g := by unfold hG; rw [hdrop 6 4 (by omega)]; exact hg
        have r1 : hR L = r := by unfold hR; rw [hdrop 10 2 (by omega)]; exact hr
        have a1 : hA L = a := by unfold hA; rw [hdrop 2 2 (by omega)]; exact ha
        have b1 : hB L = b := by unfold hB; rw [hdrop 4 2 (by omega)]; exact hb
        have hst : (List.drop 2 (List.drop (1 + 1 + 2 + 2 + 4) T), false) = (([] : List UInt8), false) := by rw [List.drop_drop, List.drop_of_length_le (by omega)]
        have hT12 := twelve T h12
        have hcT : (T.getD 1 0).toNat = c := by
          rw [← hc, take_at T 1 (by omega), Z4p]
        rw [hcT, hg, hr, ha, hb] at hT12
        have hkd : headL g r a b c = T ↔ numL (T.take 1) = 84 := by
          constructor
          · intro h
            rw [hT12]
            have : headL g r a b c = le 84 1 ++ (le c 1 ++ le a 2 ++ le b 2 ++ le g 4 ++ le r 2) := by simp [headL]
            rw [hT12] at h
            rw [this] at h
            have h84 := (List.append_inj (show le 84 1 ++ (le c 1 ++ le a 2 ++ le b 2 ++ le g 4 ++ le r 2) = le (numL (T.take 1)) 1 ++ (le c 1 ++ le a 2 ++ le b 2 ++ le g 4 ++ le r 2) by rw [h]; simp [List.append_assoc]) (by simp [Z0c])).1
            have h5 := congrArg numL h84
            rw [Z2k 84 1 (by decide)] at h5
            rw [← hT12]
            have hlt := Z2j (T.take 1)
            rw [List.length_take, Nat.min_eq_left (by omega)] at hlt
            rw [Z2k _ 1 hlt] at h5
            exact h5.symm
          · intro h
            rw [h] at hT12
            rw [hT12]
            simp [headL, List.append_assoc]
        unfold hdRead HeadIs headOf
        rw [g1, r1, a1, b1, c1]
        by_cases hall : numL (T.take 1) = 84 ∧ HeadOk g r a b c
        · rw [if_pos ⟨by omega, hall.2, by rw [hkd.2 hall.1]; exact ho⟩, if_pos ⟨hall.1, hst, hall.2⟩]
          rfl
        · rw [if_neg (fun e => hall ⟨hkd.1 (Z7d (e.2.2.trans ho.symm)), e.2.1⟩), if_neg (fun e => hall ⟨e.1, e.2.2⟩)]
          rfl
      · have hn : hdRead L = .none := by unfold hdRead; rw [if_neg (fun e => h12 (by have := e.1; omega))]
        have hst : st ≠ ([], false) := by
          intro h
          subst h
          obtain ⟨f5, l5⟩ := Z1w e6
          obtain ⟨x5, y5⟩ := s5
          simp only at f5 l5; subst f5
          obtain ⟨f4, l4⟩ := Z1w e5
          obtain ⟨x4, y4⟩ := s4
          simp only at f4 l4; subst f4
          obtain ⟨f3, l3⟩ := Z1w e4
          obtain ⟨x3, y3⟩ := s3
          simp only at f3 l3; subst f3
          obtain ⟨f2, l2⟩ := Z1w e3
          obtain ⟨x2, y2⟩ := s2
          simp only at f2 l2; subst f2
          obtain ⟨f1, l1⟩ := Z1w e2
          obtain ⟨x1, y1⟩ := s1
          simp only at f1 l1; subst f1
          obtain ⟨_, l0⟩ := Z1w e1
          simp only [List.length_nil] at *
          omega
        rw [hn, if_neg (fun e => hst e.2.1)]
        rfl
    · have hn : hdRead L = .none := by
        unfold hdRead
        rw [if_neg]
        intro e
        apply ho
        have h16 := e.1
        have h12 : (headOf L).length = 12 := Z25 _ _ _ _ _
        rw [hL, show s.size - 4 = (headOf L).length by omega]
        have := e.2.2
        have h2 := sealL_take (headOf L)
        rw [this] at h2
        rw [h2]
        exact this
      rw [hn]
      exact Z4e s w (fun W => open_no s W (by omega) (by omega) ho)
open Go.RowKit Go.Maps Go.Sort

/-- A head's fields. -/
structure Hd where
  g : Int
  r : Int
  a : Int
  b : Int
  c : Int
abbrev Hd.v (h : Hd) : Value := headV h.g h.r h.a h.b h.c
def keptV (K : Int → Bool) : Int → Option Value := fun i => if K i then some (.bool true) else none
theorem keptV_is (K : Int → Bool) (i : Int) : (keptV K i).isSome = K i := by
  unfold keptV
  cases K i <;> rfl
theorem keptV_get (K : Int → Bool) (i : Int) : (keptV K i).getD (.bool false) = .bool (K i) := by
  unfold keptV
  cases K i <;> rfl
theorem keptV_put (K : Int → Bool) (c : Int) : putV (keptV K) c (.bool true) = keptV (fun i => K i || decide (i = c)) := by
  funext i
  unfold putV keptV
  by_cases e : i = c
  · subst e; simp
  · simp [e]
theorem keptV_none : keptV (fun _ => false) = fun _ => none := rfl
abbrev pgs (n : Nat) : Nat := min (n / 16) 512
/-- What a store says: which pages are committed, which are new; the new ones' nodes lie in a pool. -/
structure StOk (P : Nat) (K : Int → Bool) (F : Int → Option Nd) (vs : List Value) (N : List Nd) (m : Int → Option Value) : Prop where
  le : P ≤ 512
  kr : ∀ c, K c = true → 1 ≤ c ∧ c < P
  fr : ∀ c nd, F c = some nd → 1 ≤ c ∧ c < P
  fg : ∀ c nd, F c = some nd → goodB nd.1 nd.2 = true ∧ ∀ x ∈ nd.2, x.1 < 18446744073709551616 ∧ x.2 < 18446744073709551616
  fm : ∀ c, F c = none → m c = none
  fs : ∀ c nd, F c = some nd → ∃ (i : Nat) (B : Option Addr) (cap : Nat), vs[i]? = some (.slice B nd.2.length cap) ∧ N[i]? = some nd ∧ m c = some (.agg #[.int .i64 (nd.1 : Nat), .slice B nd.2.length cap])
abbrev stB (p : Nat) (h : Hd) (at_ : Int) (kb fb : Nat) : Array Value := #[.pointer (some ⟨p, 0, none⟩), .int .u64 h.g, .int .i64 h.r, .int .i64 h.a, .int .i64 h.b, .int .i64 h.c, .int .i64 at_, .map (some kb), .map (some fb)]
abbrev stL (sb p : Nat) (h : Hd) (at_ : Int) (kb fb : Nat) (K : Int → Bool) (m : Int → Option Value) (vs : List Value) (N : List Nd) (R : List Thing) : List Thing :=
  tBlk sb 102 #[.pointer (some ⟨p, 0, none⟩), .int .u64 h.g, .int .i64 h.r, .int .i64 h.a, .int .i64 h.b, .int .i64 h.c, .int .i64 at_, .map (some kb), .map (some fb)] :: tMap kb 512 (keptV K) :: tMap fb 512 m :: tPool vs N :: R
/-- What is read of a store. -/
structure StR (sb p : Nat) (h : Hd) (at_ : Int) (kb fb : Nat) (K : Int → Bool) (m : Int → Option Value) (w : World) : Prop where
  blk : Blk w sb 102 (stB p h at_ kb fb)
  km : VM w kb 512 (keptV K)
  fm : VM w fb 512 m
section
variable {H : Nat} {A w w' : World} {R : List Thing} {sb p kb fb P : Nat} {h : Hd} {at_ : Int} {K : Int → Bool} {F : Int → Option Nd} {m : Int → Option Value} {vs : List Value} {N : List Nd}
theorem OwnT.stR (O : OwnT H A (stL sb p h at_ kb fb K m vs N R) w) : StR sb p h at_ kb fb K m w := ⟨O.all.1, O.all.2.1, O.all.2.2.1⟩
theorem StR.ext (h1 : StR sb p h at_ kb fb K m w) (k : Ext w w') : StR sb p h at_ kb fb K m w' := ⟨h1.blk.ext k, h1.km.ext k, h1.fm.ext k⟩
theorem StOk.isSome (s : StOk P K F vs N m) (c : Int) : (m c).isSome = (F c).isSome := by
  cases hF : F c with
  | none => rw [s.fm c hF]; rfl
  | some nd =>
    obtain ⟨i, B, cap, _, _, e⟩ := s.fs c nd hF
    rw [e]
    rfl
theorem StOk.wf (s : StOk P K F vs N m) {c : Int} (hc : 1 ≤ c ∧ c < P) : wfV c := Z4w (by omega) (by have := s.le; omega)
theorem Z28 (w : World) : (zeroValue 47).run Tryz.prog w = .ok (.agg #[.int .i64 0, .slice none 0 0]) w := by kernel_rfl
theorem Z5o (w : World) : (zeroValue 4).run Tryz.prog w = .ok (.bool false) w := by kernel_rfl
theorem x_lenM {o : Oper} {ρ : Operand → Value} {x : Operand} {t e : TypeId} {b n : Nat} {m : Int → Option Value} (hM : VM w b n m) (ho : o.op = .call { callee := .builtin .len, args := #[x], argTypes := #[t] }) (hx : ρ x = .map (some b)) (ht : Tryz.prog.underlying t = some (.map 3 e)) (L : List Int) (hnd : L.Nodup) (hL : ∀ x, x ∈ L ↔ wfV x ∧ (m x).isSome = true) :
    (execOp ρ o).run Tryz.prog w = .ok (.value (.int .i64 (L.length : Nat))) w := by
  obtain ⟨D, hown, hD⟩ := hM
  have hp := Z6a hown hD L hnd hL
  have hs : Maps.size D = L.length := by
    rw [hp.length_eq]
    obtain ⟨es, rfl, _⟩ := hown.tidy Z1p
    show es.length = (es.map _).length
    rw [List.length_map]
  have h1 := hown.len ht o.type
  rw [hs] at h1
  unfold execOp
  simp only [ho, resolve, invoke, builtin, Sem.run_bind, Sem.run_pure, Result.andThen_ok, List.map_toArray, List.map_cons, List.map_nil, hx]
  exact congrArg (Result.andThen · _) h1
/-- How many pages are committed, how many are new. -/
def kL (P : Nat) (K : Int → Bool) : List Int := riseN P K
def fL (P : Nat) (F : Int → Option Nd) : List Int := riseN P fun i => (F i).isSome
theorem kL_mem (s : StOk P K F vs N m) (x : Int) : x ∈ kL P K ↔ wfV x ∧ (keptV K x).isSome = true := by
  unfold kL
  rw [Z3o, keptV_is]
  constructor
  · rintro ⟨h1, h2⟩
    have := s.le
    exact ⟨Z4w (by omega) (by omega), h2⟩
  · rintro ⟨_, h2⟩
    have := s.kr x h2
    exact ⟨by omega, h2⟩
theorem fL_mem (s : StOk P K F vs N m) (x : Int) : x ∈ fL P F ↔ wfV x ∧ (m x).isSome = true := by
  unfold fL
  rw [Z3o, s.isSome]
  constructor
  · rintro ⟨h1, h2⟩
    have := s.le
    exact ⟨Z4w (by omega) (by omega), h2⟩
  · rintro ⟨_, h2⟩
    obtain ⟨nd, hn⟩ := Option.isSome_iff_exists.1 h2
    have := s.fr x nd hn
    exact ⟨by omega, h2⟩
/-- A new page's node in memory. -/
theorem StOk.node (s : StOk P K F vs N m) (hp : (tPool vs N).holds w) {c : Int} {nd : Nd} (hc : F c = some nd) : ∃ (B : Option Addr) (cap : Nat), m c = some (.agg #[.int .i64 (nd.1 : Nat), .slice B nd.2.length cap]) ∧ nd.2.length ≤ cap ∧ cap ≤ maxLen ∧ Row w B 2 pairC nd.2 ∧ SlB B cap nd.2 := by
  obtain ⟨i, B, cap, h1, h2, h3⟩ := s.fs c nd hc
  obtain ⟨B', cap', e, g1, g2, g3, g4⟩ := ps_row (hp.2 i _ nd h1 h2)
  cases e
  exact ⟨B, cap, h3, g1, g2, g3, g4⟩
end
end Go.Proofs.YtakkhglbdljfiaaGreatDoor
