/- owners: searching in rising lists. -/
import Derived.Test.YtdpohbaeopidmaaKOwnersExact04
namespace Go.Proofs.Ytdpohbaeopidmaa
set_option linter.unusedVariables false
set_option linter.unusedSimpArgs false
open Go.RowKit

def atO (X : List OwD) (i : Nat) : OwD := X.getD i (0, 0, 0)
theorem atO_eq {X : List OwD} {i : Nat} (h : i < X.length) : X[i] = atO X i := by simp [atO, List.getD, h]
theorem Row.own_in {w w' : World} {A : Option Addr} {X : List OwD} (h : Row w A 3 ownC X) (hb : Below w.heap.size w w') {i : Nat} (hi : i < X.length) :
    ∃ b off, A = some ⟨b, off, none⟩ ∧ b < w.heap.size ∧ w'.cell? ⟨b, off + i * 3, none⟩ = some (.int .i64 (atO X i).1) ∧ w'.cell? ⟨b, off + i * 3 + 1, none⟩ = some (.int .i64 (atO X i).2.1) ∧ w'.cell? ⟨b, off + i * 3 + 2, none⟩ = some (.int .i64 (atO X i).2.2) := by
  obtain ⟨b, off, hA, hlt, hc⟩ := h.in_ hb hi
  rw [atO_eq hi] at hc
  exact ⟨b, off, hA, hlt, hc 0 _ rfl, hc 1 _ rfl, hc 2 _ rfl⟩

set_option maxRecDepth 100000 in
set_option maxHeartbeats 4000000 in
theorem bsearchO_any (A : Option Addr) (len cap : Nat) (X : List OwD) (x : OwD) (w : World) (hlen : X.length = len) (hm : len ≤ 1000000000000) (hrow : Row w A 3 ownC X) (n : Nat) (hn : n ≤ len) (hb : ∀ i, i < n → ltO (atO X i) x) (ha : ∀ i, n ≤ i → i < len → ¬ ltO (atO X i) x) :
    Calls Try.prog 66 #[.slice A len cap, ownV x, .func (.func 67) #[] #[]] w fun e w' => e = .returned (.tuple #[.int .i64 n, .bool (decide (n < len ∧ atO X n = x))]) ∧ Ext w w' := by
  have HB := Lib.hid hb
  have HA := Lib.hid ha
  have HL := Lib.hid hlen
  have HR := Lib.hid hrow
  clear hb ha hlen hrow
  obtain ⟨x1, x2, x3⟩ := x
  unfold ownV
  go_enter Try.func66, Try.ntmps66
  go_wp2_with fail
  have O1 := (Own.start w).new 31 #[.int .i64 x1, .int .i64 x2, .int .i64 x3]
  generalize w.alloc (.cells #[.int .i64 x1, .int .i64 x2, .int .i64 x3] 31) = w1 at O1 ⊢
  obtain ⟨g, hg⟩ : ∃ g, w.heap.size = g := ⟨_, rfl⟩
  have O1 : Own w.heap.size w [(g, 31, #[.int .i64 x1, .int .i64 x2, .int .i64 x3])] w1 := hg ▸ O1
  rw [hg]
  clear hg
  go_loopw [9, 10] (fun i j wr => ∃ (lo hi : Nat), i = .int .i64 lo ∧ j = .int .i64 hi ∧ lo ≤ n ∧ n ≤ hi ∧ hi ≤ len ∧ Own w.heap.size w [(g, 31, #[.int .i64 x1, .int .i64 x2, .int .i64 x3])] wr) (fun i j _ => (intOf j).toNat - (intOf i).toNat)
  case atStart => exact ⟨0, len, rfl, rfl, by omega, hn, by omega, O1⟩
  case round =>
    obtain ⟨lo, hi, rfl, rfl, h1, h2, h3, hO⟩ := hrel
    clear O1
    have HO := Lib.hid hO
    clear hO
    by_cases hlt : lo < hi
    · obtain ⟨m, hm2⟩ : ∃ m : Nat, (lo + hi) / 2 = m := ⟨_, rfl⟩
      have hm3 : lo ≤ m ∧ m < hi := by omega
      have hM : ((lo : Int) + hi) / 2 = (m : Int) := by omega
      obtain ⟨b, off, rfl, hbl, -, -, -⟩ := HR.out.own_in HO.out.below (i := m) (by rw [HL.out]; omega)
      have HQ := Lib.hid (fun (wx : World) (hR : Ext wr wx) => HR.out.own_in (HO.out.ext hR).below (i := m) (by rw [HL.out]; omega))
      obtain ⟨c, hc⟩ : ∃ c : Int, cmpO (atO X m) (x1, x2, x3) = c := ⟨_, rfl⟩
      have HF := Lib.hid (fun W => hc ▸ cmpO_any (atO X m) (x1, x2, x3) W)
      obtain ⟨y1, hy1⟩ : ∃ y, (atO X m).1 = y := ⟨_, rfl⟩
      obtain ⟨y2, hy2⟩ : ∃ y, (atO X m).2.1 = y := ⟨_, rfl⟩
      obtain ⟨y3, hy3⟩ : ∃ y, (atO X m).2.2 = y := ⟨_, rfl⟩
      unfold ownV at HF
      simp only [hy1, hy2, hy3] at HF HQ
      have HCN := Lib.hid (show c < 0 ↔ m < n by
        rw [← hc, cmpO_neg]
        constructor
        · intro h
          rcases Nat.lt_or_ge m n with h4 | h4
          · exact h4
          · exact absurd h (HA.out m h4 (by omega))
        · exact HB.out m)
      clear hc hy1 hy2 hy3
      go_upto_region 5 with fail
      clear hM hm2
      by_cases hmn : m < n
      · have hcb : decide (c < 0) = true := by simpa using HCN.out.2 hmn
        refine wp_typed (R := Ext) (w0 := wr) [[], [], [], [1, 2], [1, 2, 3], [], [0, 1, 2, 3, 4, 5], [0, 1, 2, 3, 4, 5, 6]] [24, 25, 26, 27, 28, 29, 30, 31] Ext.refl (fun _ _ _ => Ext.trans) (Ext.drew _) (by kernel_rfl) ?_
        apply Build.det 24 Ext.refl (by rfl) (by rfl) rfl
        case h =>   -- 0: t24 := Op.move (tmp 2)
          intro ax wx hE hR hF
          have e2 : ax.eval (.tmp 2) = .func (.func 67) #[] #[] := hE.eval 2 (by rfl) rfl
          simp [go_sem, BigFrame.eval_const, BigFrame.eval_global, BigFrame.eval_func, ↓IntWalk.iteOmega, ev e2]
          with_reducible rfl
        apply Build.det 25 Ext.refl (by rfl) (by rfl) rfl
        case h =>   -- 1: t25 := Op.move (tmp 0)
          intro ax wx hE hR hF
          have e0 : ax.eval (.tmp 0) = .slice (some ⟨b, off, none⟩) len cap := hE.eval 0 (by rfl) rfl
          simp [go_sem, BigFrame.eval_const, BigFrame.eval_global, BigFrame.eval_func, ↓IntWalk.iteOmega, ev e0]
          with_reducible rfl
        apply Build.det 26 Ext.refl (by rfl) (by rfl) rfl
        case h =>   -- 2: t26 := Op.move (tmp 11)
          intro ax wx hE hR hF
          have e11 : ax.eval (.tmp 11) = .int .i64 m := hE.eval 11 (by rfl) rfl
          simp [go_sem, BigFrame.eval_const, BigFrame.eval_global, BigFrame.eval_func, ↓IntWalk.iteOmega, ev e11]
          with_reducible rfl
        apply Build.det 27 Ext.refl (by rfl) (by rfl) rfl
        case h =>   -- 3: t27 := Op.indexAddr 42 (tmp 25) (tmp 26)
          intro ax wx hE hR hF
          have e25 : ax.eval (.tmp 25) = _ := hF 1 (det 25 _) (by decide) (.tail _ (.head _))
          have e26 : ax.eval (.tmp 26) = _ := hF 2 (det 26 _) (by decide) (.head _)
          simp [go_sem, BigFrame.eval_const, BigFrame.eval_global, BigFrame.eval_func, ↓IntWalk.iteOmega, ev e25, ev e26]
          with_reducible rfl
        apply Build.det 28 Ext.refl (by rfl) (by rfl) rfl
        case h =>   -- 4: t28 := Op.load 31 (tmp 27)
          intro ax wx hE hR hF
          have e27 : ax.eval (.tmp 27) = _ := hF 3 (det 27 _) (by decide) (.head _)
          obtain ⟨_, _, hA2, _, q0, q1, q2⟩ := HQ.out wx hR; cases hA2; have hB := (HO.out.ext hR).all.1; have a0 := hB.cell 0; have a1 := hB.cell 1; have a2 := hB.cell 2; simp at a0 a1 a2
          simp [go_sem, BigFrame.eval_const, BigFrame.eval_global, BigFrame.eval_func, ↓IntWalk.iteOmega, ev e27, q0, q1, q2, a0, a1, a2]
          with_reducible rfl
        apply Build.det 29 Ext.refl (by rfl) (by rfl) rfl
        case h =>   -- 5: t29 := Op.load 31 (tmp 4)
          intro ax wx hE hR hF
          have e4 : ax.eval (.tmp 4) = .pointer (some ⟨g, 0, none⟩) := hE.eval 4 (by rfl) rfl
          obtain ⟨_, _, hA2, _, q0, q1, q2⟩ := HQ.out wx hR; cases hA2; have hB := (HO.out.ext hR).all.1; have a0 := hB.cell 0; have a1 := hB.cell 1; have a2 := hB.cell 2; simp at a0 a1 a2
          simp [go_sem, BigFrame.eval_const, BigFrame.eval_global, BigFrame.eval_func, ↓IntWalk.iteOmega, ev e4, q0, q1, q2, a0, a1, a2]
          with_reducible rfl
        apply Build.call 30 Ext.refl (by rfl) (by rfl) rfl
        case h =>
          intro ax wx hE hR hF
          have e24 : ax.eval (.tmp 24) = _ := hF 0 (det 24 _) (by decide) (.tail _ (.tail _ (.tail _ (.tail _ (.tail _ (.head _))))))
          have e28 : ax.eval (.tmp 28) = _ := hF 4 (det 28 _) (by decide) (.tail _ (.head _))
          have e29 : ax.eval (.tmp 29) = _ := hF 5 (det 29 _) (by decide) (.head _)
          simp [go_sem, BigFrame.eval_const, BigFrame.eval_global, BigFrame.eval_func, ↓IntWalk.iteOmega, ev e24, ev e28, ev e29]
          with_reducible exact ⟨rfl, rfl⟩
        case hc => intro wx hR; with_reducible exact HF.out wx
        apply Build.det 31 Ext.refl (by rfl) (by rfl) rfl
        case h =>   -- 7: t31 := Op.binOp BinOp.lss 3 (tmp 30) (const (Value.int IntKind.i64 0)) 3
          intro ax wx hE hR hF
          have e30 : ax.eval (.tmp 30) = _ := hF 6 (det 30 _) (by decide) (.head _)
          simp [go_sem, BigFrame.eval_const, BigFrame.eval_global, BigFrame.eval_func, ↓IntWalk.iteOmega, ev e30, hcb]
          with_reducible rfl
        apply Build.stop
        refine ⟨by kernel_rfl, .inl ⟨rfl, ?_⟩⟩
        intro ax w3 hE R3 hF
        have e24 : ax.eval (.tmp 24) = _ := hF 0 (det 24 _) (.tail _ (.tail _ (.tail _ (.tail _ (.tail _ (.tail _ (.tail _ (.head _))))))))
        have e25 : ax.eval (.tmp 25) = _ := hF 1 (det 25 _) (.tail _ (.tail _ (.tail _ (.tail _ (.tail _ (.tail _ (.head _)))))))
        have e26 : ax.eval (.tmp 26) = _ := hF 2 (det 26 _) (.tail _ (.tail _ (.tail _ (.tail _ (.tail _ (.head _))))))
        have e27 : ax.eval (.tmp 27) = _ := hF 3 (det 27 _) (.tail _ (.tail _ (.tail _ (.tail _ (.head _)))))
        have e28 : ax.eval (.tmp 28) = _ := hF 4 (det 28 _) (.tail _ (.tail _ (.tail _ (.head _))))
        have e29 : ax.eval (.tmp 29) = _ := hF 5 (det 29 _) (.tail _ (.tail _ (.head _)))
        have e30 : ax.eval (.tmp 30) = _ := hF 6 (det 30 _) (.tail _ (.head _))
        have e31 : ax.eval (.tmp 31) = _ := hF 7 (det 31 _) (.head _)
        rw [AllEq.frame (D := [24, 25, 26, 27, 28, 29, 30, 31]) (AllEq.cons e24 (AllEq.cons e25 (AllEq.cons e26 (AllEq.cons e27 (AllEq.cons e28 (AllEq.cons e29 (AllEq.cons e30 (AllEq.cons e31 (AllEq.nil))))))))) hE rfl]
        clear hF hE e24 e25 e26 e27 e28 e29 e30 e31
        simp only [List.foldl_cons, List.foldl_nil, Act.put, List.setIfInBounds_toArray, List.set_cons_succ, List.set_cons_zero]
        have HO3 := Lib.hid (HO.out.ext R3)
        clear R3 hcb
        go_wp2_with fail
        go_roundw
        case rel => exact ⟨m + 1, hi, by go_num, rfl, by omega, h2, h3, HO3.out⟩
        case measure => simp [intOf]; omega
      · have hcb : decide (c < 0) = false := by simpa using fun h => hmn (HCN.out.1 h)
        refine wp_typed (R := Ext) (w0 := wr) [[], [], [], [1, 2], [1, 2, 3], [], [0, 1, 2, 3, 4, 5], [0, 1, 2, 3, 4, 5, 6]] [24, 25, 26, 27, 28, 29, 30, 31] Ext.refl (fun _ _ _ => Ext.trans) (Ext.drew _) (by kernel_rfl) ?_
        apply Build.det 24 Ext.refl (by rfl) (by rfl) rfl
        case h =>   -- 0: t24 := Op.move (tmp 2)
          intro ax wx hE hR hF
          have e2 : ax.eval (.tmp 2) = .func (.func 67) #[] #[] := hE.eval 2 (by rfl) rfl
          simp [go_sem, BigFrame.eval_const, BigFrame.eval_global, BigFrame.eval_func, ↓IntWalk.iteOmega, ev e2]
          with_reducible rfl
        apply Build.det 25 Ext.refl (by rfl) (by rfl) rfl
        case h =>   -- 1: t25 := Op.move (tmp 0)
          intro ax wx hE hR hF
          have e0 : ax.eval (.tmp 0) = .slice (some ⟨b, off, none⟩) len cap := hE.eval 0 (by rfl) rfl
          simp [go_sem, BigFrame.eval_const, BigFrame.eval_global, BigFrame.eval_func, ↓IntWalk.iteOmega, ev e0]
          with_reducible rfl
        apply Build.det 26 Ext.refl (by rfl) (by rfl) rfl
        case h =>   -- 2: t26 := Op.move (tmp 11)
          intro ax wx hE hR hF
          have e11 : ax.eval (.tmp 11) = .int .i64 m := hE.eval 11 (by rfl) rfl
          simp [go_sem, BigFrame.eval_const, BigFrame.eval_global, BigFrame.eval_func, ↓IntWalk.iteOmega, ev e11]
          with_reducible rfl
        apply Build.det 27 Ext.refl (by rfl) (by rfl) rfl
        case h =>   -- 3: t27 := Op.indexAddr 42 (tmp 25) (tmp 26)
          intro ax wx hE hR hF
          have e25 : ax.eval (.tmp 25) = _ := hF 1 (det 25 _) (by decide) (.tail _ (.head _))
          have e26 : ax.eval (.tmp 26) = _ := hF 2 (det 26 _) (by decide) (.head _)
          simp [go_sem, BigFrame.eval_const, BigFrame.eval_global, BigFrame.eval_func, ↓IntWalk.iteOmega, ev e25, ev e26]
          with_reducible rfl
        apply Build.det 28 Ext.refl (by rfl) (by rfl) rfl
        case h =>   -- 4: t28 := Op.load 31 (tmp 27)
          intro ax wx hE hR hF
          have e27 : ax.eval (.tmp 27) = _ := hF 3 (det 27 _) (by decide) (.head _)
          obtain ⟨_, _, hA2, _, q0, q1, q2⟩ := HQ.out wx hR; cases hA2; have hB := (HO.out.ext hR).all.1; have a0 := hB.cell 0; have a1 := hB.cell 1; have a2 := hB.cell 2; simp at a0 a1 a2
          simp [go_sem, BigFrame.eval_const, BigFrame.eval_global, BigFrame.eval_func, ↓IntWalk.iteOmega, ev e27, q0, q1, q2, a0, a1, a2]
          with_reducible rfl
        apply Build.det 29 Ext.refl (by rfl) (by rfl) rfl
        case h =>   -- 5: t29 := Op.load 31 (tmp 4)
          intro ax wx hE hR hF
          have e4 : ax.eval (.tmp 4) = .pointer (some ⟨g, 0, none⟩) := hE.eval 4 (by rfl) rfl
          obtain ⟨_, _, hA2, _, q0, q1, q2⟩ := HQ.out wx hR; cases hA2; have hB := (HO.out.ext hR).all.1; have a0 := hB.cell 0; have a1 := hB.cell 1; have a2 := hB.cell 2; simp at a0 a1 a2
          simp [go_sem, BigFrame.eval_const, BigFrame.eval_global, BigFrame.eval_func, ↓IntWalk.iteOmega, ev e4, q0, q1, q2, a0, a1, a2]
          with_reducible rfl
        apply Build.call 30 Ext.refl (by rfl) (by rfl) rfl
        case h =>
          intro ax wx hE hR hF
          have e24 : ax.eval (.tmp 24) = _ := hF 0 (det 24 _) (by decide) (.tail _ (.tail _ (.tail _ (.tail _ (.tail _ (.head _))))))
          have e28 : ax.eval (.tmp 28) = _ := hF 4 (det 28 _) (by decide) (.tail _ (.head _))
          have e29 : ax.eval (.tmp 29) = _ := hF 5 (det 29 _) (by decide) (.head _)
          simp [go_sem, BigFrame.eval_const, BigFrame.eval_global, BigFrame.eval_func, ↓IntWalk.iteOmega, ev e24, ev e28, ev e29]
          with_reducible exact ⟨rfl, rfl⟩
        case hc => intro wx hR; with_reducible exact HF.out wx
        apply Build.det 31 Ext.refl (by rfl) (by rfl) rfl
        case h =>   -- 7: t31 := Op.binOp BinOp.lss 3 (tmp 30) (const (Value.int IntKind.i64 0)) 3
          intro ax wx hE hR hF
          have e30 : ax.eval (.tmp 30) = _ := hF 6 (det 30 _) (by decide) (.head _)
          simp [go_sem, BigFrame.eval_const, BigFrame.eval_global, BigFrame.eval_func, ↓IntWalk.iteOmega, ev e30, hcb]
          with_reducible rfl
        apply Build.stop
        refine ⟨by kernel_rfl, .inl ⟨rfl, ?_⟩⟩
        intro ax w3 hE R3 hF
        have e24 : ax.eval (.tmp 24) = _ := hF 0 (det 24 _) (.tail _ (.tail _ (.tail _ (.tail _ (.tail _ (.tail _ (.tail _ (.head _))))))))
        have e25 : ax.eval (.tmp 25) = _ := hF 1 (det 25 _) (.tail _ (.tail _ (.tail _ (.tail _ (.tail _ (.tail _ (.head _)))))))
        have e26 : ax.eval (.tmp 26) = _ := hF 2 (det 26 _) (.tail _ (.tail _ (.tail _ (.tail _ (.tail _ (.head _))))))
        have e27 : ax.eval (.tmp 27) = _ := hF 3 (det 27 _) (.tail _ (.tail _ (.tail _ (.tail _ (.head _)))))
        have e28 : ax.eval (.tmp 28) = _ := hF 4 (det 28 _) (.tail _ (.tail _ (.tail _ (.head _))))
        have e29 : ax.eval (.tmp 29) = _ := hF 5 (det 29 _) (.tail _ (.tail _ (.head _)))
        have e30 : ax.eval (.tmp 30) = _ := hF 6 (det 30 _) (.tail _ (.head _))
        have e31 : ax.eval (.tmp 31) = _ := hF 7 (det 31 _) (.head _)
        rw [AllEq.frame (D := [24, 25, 26, 27, 28, 29, 30, 31]) (AllEq.cons e24 (AllEq.cons e25 (AllEq.cons e26 (AllEq.cons e27 (AllEq.cons e28 (AllEq.cons e29 (AllEq.cons e30 (AllEq.cons e31 (AllEq.nil))))))))) hE rfl]
        clear hF hE e24 e25 e26 e27 e28 e29 e30 e31
        simp only [List.foldl_cons, List.foldl_nil, Act.put, List.setIfInBounds_toArray, List.set_cons_succ, List.set_cons_zero]
        have HO3 := Lib.hid (HO.out.ext R3)
        clear R3 hcb
        go_wp2_with fail
        go_roundw
        case rel => exact ⟨lo, m, rfl, rfl, h1, by omega, by omega, HO3.out⟩
        case measure => simp [intOf]; omega
    · obtain rfl : n = lo := by omega
      obtain rfl : n = hi := by omega
      by_cases hnl : n < len
      · obtain ⟨b, off, rfl, hbl, -, -, -⟩ := HR.out.own_in HO.out.below (i := n) (by rw [HL.out]; omega)
        have HQ := Lib.hid (fun (wx : World) (hR : Ext wr wx) => HR.out.own_in (HO.out.ext hR).below (i := n) (by rw [HL.out]; omega))
        obtain ⟨c, hc⟩ : ∃ c : Int, cmpO (atO X n) (x1, x2, x3) = c := ⟨_, rfl⟩
        have HF := Lib.hid (fun W => hc ▸ cmpO_any (atO X n) (x1, x2, x3) W)
        obtain ⟨y1, hy1⟩ : ∃ y, (atO X n).1 = y := ⟨_, rfl⟩
        obtain ⟨y2, hy2⟩ : ∃ y, (atO X n).2.1 = y := ⟨_, rfl⟩
        obtain ⟨y3, hy3⟩ : ∃ y, (atO X n).2.2 = y := ⟨_, rfl⟩
        unfold ownV at HF
        simp only [hy1, hy2, hy3] at HF HQ
        obtain ⟨z, hz⟩ : ∃ z : Bool, (c == 0) = z := ⟨_, rfl⟩
        have HZ := Lib.hid (show decide (n < len ∧ atO X n = (x1, x2, x3)) = z by
          rw [← hz, Bool.eq_iff_iff, beq_iff_eq, decide_eq_true_iff, ← hc, cmpO_zero]
          exact ⟨fun h => h.2, fun h => ⟨hnl, h⟩⟩)
        clear hc hy1 hy2 hy3
        have hnb : decide ((n : Int) < (len : Int)) = true := by simpa using hnl
        go_upto_region 8 with fail
        refine wp_typed (R := Ext) (w0 := wr) [[], [], [], [1, 2], [1, 2, 3], [1, 2, 3, 4], [1, 2, 3, 4], [1, 2, 3, 4], [1, 2, 3, 4, 6, 7], [1, 2, 3, 4, 6, 7, 8], [1, 2, 3, 4], [1, 2, 3, 4, 5, 6, 7, 8, 9, 10], [1, 2, 3, 4, 5, 6, 7, 8, 9, 10, 11], [1, 2, 3, 4, 5, 6, 7, 8, 9, 10, 11, 12], [0, 1, 2, 3, 4, 5, 6, 7, 8, 9, 10, 11], [0, 1, 2, 3, 4, 5, 6, 7, 8, 9, 10, 11, 12, 13, 14]] [35, 36, 37, 38, 39, 40, 41, 42, 43, 44, 45, 46, 47, 48, 6, 7] Ext.refl (fun _ _ _ => Ext.trans) (Ext.drew _) (by kernel_rfl) ?_
        apply Build.det 35 Ext.refl (by rfl) (by rfl) rfl
        case h =>   -- 0: t35 := Op.move (tmp 9)
          intro ax wx hE hR hF
          have e9 : ax.eval (.tmp 9) = .int .i64 n := hE.eval 9 (by rfl) rfl
          simp [go_sem, BigFrame.eval_const, BigFrame.eval_global, BigFrame.eval_func, ↓IntWalk.iteOmega, ev e9]
          with_reducible rfl
        apply Build.det 36 Ext.refl (by rfl) (by rfl) rfl
        case h =>   -- 1: t36 := Op.move (tmp 9)
          intro ax wx hE hR hF
          have e9 : ax.eval (.tmp 9) = .int .i64 n := hE.eval 9 (by rfl) rfl
          simp [go_sem, BigFrame.eval_const, BigFrame.eval_global, BigFrame.eval_func, ↓IntWalk.iteOmega, ev e9]
          with_reducible rfl
        apply Build.det 37 Ext.refl (by rfl) (by rfl) rfl
        case h =>   -- 2: t37 := Op.move (tmp 8)
          intro ax wx hE hR hF
          have e8 : ax.eval (.tmp 8) = .int .i64 len := hE.eval 8 (by rfl) rfl
          simp [go_sem, BigFrame.eval_const, BigFrame.eval_global, BigFrame.eval_func, ↓IntWalk.iteOmega, ev e8]
          with_reducible rfl
        apply Build.det 38 Ext.refl (by rfl) (by rfl) rfl
        case h =>   -- 3: t38 := Op.binOp BinOp.lss 3 (tmp 36) (tmp 37) 3
          intro ax wx hE hR hF
          have e36 : ax.eval (.tmp 36) = _ := hF 1 (det 36 _) (by decide) (.tail _ (.head _))
          have e37 : ax.eval (.tmp 37) = _ := hF 2 (det 37 _) (by decide) (.head _)
          simp [go_sem, BigFrame.eval_const, BigFrame.eval_global, BigFrame.eval_func, ↓IntWalk.iteOmega, ev e36, ev e37, hnl]
          with_reducible rfl
        apply Build.det 39 Ext.refl (by rfl) (by rfl) rfl
        case h =>   -- 4: t39 := Op.move (tmp 38)
          intro ax wx hE hR hF
          have e38 : ax.eval (.tmp 38) = _ := hF 3 (det 38 _) (by decide) (.head _)
          simp [go_sem, BigFrame.eval_const, BigFrame.eval_global, BigFrame.eval_func, ↓IntWalk.iteOmega, ev e38]
          with_reducible rfl
        apply Build.detg 40 Ext.refl (by rfl) (by rfl) rfl rfl
        case h =>   -- 5: t40 := Op.move (tmp 2)
          intro ax wx hE hR hF
          have e2 : ax.eval (.tmp 2) = .func (.func 67) #[] #[] := hE.eval 2 (by rfl) rfl
          have e39 : ax.eval (.tmp 39) = _ := hF 4 (det 39 _) (by decide) (.head _)
          refine ⟨e39, ?_⟩
          simp [go_sem, BigFrame.eval_const, BigFrame.eval_global, BigFrame.eval_func, ↓IntWalk.iteOmega, ev e2, ev e39]
          with_reducible rfl
        apply Build.detg 41 Ext.refl (by rfl) (by rfl) rfl rfl
        case h =>   -- 6: t41 := Op.move (tmp 0)
          intro ax wx hE hR hF
          have e0 : ax.eval (.tmp 0) = .slice (some ⟨b, off, none⟩) len cap := hE.eval 0 (by rfl) rfl
          have e39 : ax.eval (.tmp 39) = _ := hF 4 (det 39 _) (by decide) (.tail _ (.head _))
          refine ⟨e39, ?_⟩
          simp [go_sem, BigFrame.eval_const, BigFrame.eval_global, BigFrame.eval_func, ↓IntWalk.iteOmega, ev e0, ev e39]
          with_reducible rfl
        apply Build.detg 42 Ext.refl (by rfl) (by rfl) rfl rfl
        case h =>   -- 7: t42 := Op.move (tmp 9)
          intro ax wx hE hR hF
          have e9 : ax.eval (.tmp 9) = .int .i64 n := hE.eval 9 (by rfl) rfl
          have e39 : ax.eval (.tmp 39) = _ := hF 4 (det 39 _) (by decide) (.tail _ (.tail _ (.head _)))
          refine ⟨e39, ?_⟩
          simp [go_sem, BigFrame.eval_const, BigFrame.eval_global, BigFrame.eval_func, ↓IntWalk.iteOmega, ev e9, ev e39]
          with_reducible rfl
        apply Build.detg 43 Ext.refl (by rfl) (by rfl) rfl rfl
        case h =>   -- 8: t43 := Op.indexAddr 42 (tmp 41) (tmp 42)
          intro ax wx hE hR hF
          have e39 : ax.eval (.tmp 39) = _ := hF 4 (det 39 _) (by decide) (.tail _ (.tail _ (.tail _ (.head _))))
          have e41 : ax.eval (.tmp 41) = _ := hF 6 (det 41 _) (by decide) (.tail _ (.head _))
          have e42 : ax.eval (.tmp 42) = _ := hF 7 (det 42 _) (by decide) (.head _)
          refine ⟨e39, ?_⟩
          simp [go_sem, BigFrame.eval_const, BigFrame.eval_global, BigFrame.eval_func, ↓IntWalk.iteOmega, ev e39, ev e41, ev e42]
          with_reducible rfl
        apply Build.detg 44 Ext.refl (by rfl) (by rfl) rfl rfl
        case h =>   -- 9: t44 := Op.load 31 (tmp 43)
          intro ax wx hE hR hF
          have e39 : ax.eval (.tmp 39) = _ := hF 4 (det 39 _) (by decide) (.tail _ (.tail _ (.tail _ (.tail _ (.head _)))))
          have e43 : ax.eval (.tmp 43) = _ := hF 8 (det 43 _) (by decide) (.head _)
          obtain ⟨_, _, hA2, _, q0, q1, q2⟩ := HQ.out wx hR; cases hA2; have hB := (HO.out.ext hR).all.1; have a0 := hB.cell 0; have a1 := hB.cell 1; have a2 := hB.cell 2; simp at a0 a1 a2
          refine ⟨e39, ?_⟩
          simp [go_sem, BigFrame.eval_const, BigFrame.eval_global, BigFrame.eval_func, ↓IntWalk.iteOmega, ev e39, ev e43, q0, q1, q2, a0, a1, a2]
          with_reducible rfl
        apply Build.detg 45 Ext.refl (by rfl) (by rfl) rfl rfl
        case h =>   -- 10: t45 := Op.load 31 (tmp 4)
          intro ax wx hE hR hF
          have e4 : ax.eval (.tmp 4) = .pointer (some ⟨g, 0, none⟩) := hE.eval 4 (by rfl) rfl
          have e39 : ax.eval (.tmp 39) = _ := hF 4 (det 39 _) (by decide) (.tail _ (.tail _ (.tail _ (.tail _ (.tail _ (.head _))))))
          obtain ⟨_, _, hA2, _, q0, q1, q2⟩ := HQ.out wx hR; cases hA2; have hB := (HO.out.ext hR).all.1; have a0 := hB.cell 0; have a1 := hB.cell 1; have a2 := hB.cell 2; simp at a0 a1 a2
          refine ⟨e39, ?_⟩
          simp [go_sem, BigFrame.eval_const, BigFrame.eval_global, BigFrame.eval_func, ↓IntWalk.iteOmega, ev e4, ev e39, q0, q1, q2, a0, a1, a2]
          with_reducible rfl
        apply Build.callg 46 Ext.refl (by rfl) (by rfl) rfl rfl
        case h =>
          intro ax wx hE hR hF
          have e39 : ax.eval (.tmp 39) = _ := hF 4 (det 39 _) (by decide) (.tail _ (.tail _ (.tail _ (.tail _ (.tail _ (.tail _ (.head _)))))))
          have e40 : ax.eval (.tmp 40) = _ := hF 5 (det 40 _) (by decide) (.tail _ (.tail _ (.tail _ (.tail _ (.tail _ (.head _))))))
          have e44 : ax.eval (.tmp 44) = _ := hF 9 (det 44 _) (by decide) (.tail _ (.head _))
          have e45 : ax.eval (.tmp 45) = _ := hF 10 (det 45 _) (by decide) (.head _)
          refine ⟨e39, ?_⟩
          simp [go_sem, BigFrame.eval_const, BigFrame.eval_global, BigFrame.eval_func, ↓IntWalk.iteOmega, ev e39, ev e40, ev e44, ev e45]
          with_reducible exact ⟨rfl, rfl⟩
        case hc => intro wx hR; with_reducible exact HF.out wx
        apply Build.detg 47 Ext.refl (by rfl) (by rfl) rfl rfl
        case h =>   -- 12: t47 := Op.binOp BinOp.eql 3 (tmp 46) (const (Value.int IntKind.i64 0)) 3
          intro ax wx hE hR hF
          have e39 : ax.eval (.tmp 39) = _ := hF 4 (det 39 _) (by decide) (.tail _ (.tail _ (.tail _ (.tail _ (.tail _ (.tail _ (.tail _ (.head _))))))))
          have e46 : ax.eval (.tmp 46) = _ := hF 11 (det 46 _) (by decide) (.head _)
          refine ⟨e39, ?_⟩
          simp [go_sem, BigFrame.eval_const, BigFrame.eval_global, BigFrame.eval_func, ↓IntWalk.iteOmega, ev e39, ev e46, hz]
          with_reducible rfl
        apply Build.det 48 Ext.refl (by rfl) (by rfl) rfl
        case h =>   -- 13: t48 := Op.pick (tmp 39) (tmp 47) (const (Value.bool false))
          intro ax wx hE hR hF
          have e39 : ax.eval (.tmp 39) = _ := hF 4 (det 39 _) (by decide) (.tail _ (.tail _ (.tail _ (.tail _ (.tail _ (.tail _ (.tail _ (.tail _ (.head _)))))))))
          have e47 : ax.eval (.tmp 47) = _ := hF 12 (det 47 _) (by decide) (.head _)
          simp [go_sem, BigFrame.eval_const, BigFrame.eval_global, BigFrame.eval_func, ↓IntWalk.iteOmega, ev e39, ev e47]
          with_reducible rfl
        apply Build.det 6 Ext.refl (by rfl) (by rfl) rfl
        case h =>   -- 14: t6 := Op.assign (tmp 35)
          intro ax wx hE hR hF
          have e35 : ax.eval (.tmp 35) = _ := hF 0 (det 35 _) (by decide) (.tail _ (.tail _ (.tail _ (.tail _ (.tail _ (.tail _ (.tail _ (.tail _ (.tail _ (.tail _ (.tail _ (.tail _ (.tail _ (.head _))))))))))))))
          simp [go_sem, BigFrame.eval_const, BigFrame.eval_global, BigFrame.eval_func, ↓IntWalk.iteOmega, ev e35]
          with_reducible rfl
        apply Build.det 7 Ext.refl (by rfl) (by rfl) rfl
        case h =>   -- 15: t7 := Op.assign (tmp 48)
          intro ax wx hE hR hF
          have e48 : ax.eval (.tmp 48) = _ := hF 13 (det 48 _) (by decide) (.tail _ (.head _))
          simp [go_sem, BigFrame.eval_const, BigFrame.eval_global, BigFrame.eval_func, ↓IntWalk.iteOmega, ev e48]
          with_reducible rfl
        apply Build.stop
        refine ⟨by kernel_rfl, .inl ⟨rfl, ?_⟩⟩
        intro ax w3 hE R3 hF
        have e35 : ax.eval (.tmp 35) = _ := hF 0 (det 35 _) (.tail _ (.tail _ (.tail _ (.tail _ (.tail _ (.tail _ (.tail _ (.tail _ (.tail _ (.tail _ (.tail _ (.tail _ (.tail _ (.tail _ (.tail _ (.head _))))))))))))))))
        have e36 : ax.eval (.tmp 36) = _ := hF 1 (det 36 _) (.tail _ (.tail _ (.tail _ (.tail _ (.tail _ (.tail _ (.tail _ (.tail _ (.tail _ (.tail _ (.tail _ (.tail _ (.tail _ (.tail _ (.head _)))))))))))))))
        have e37 : ax.eval (.tmp 37) = _ := hF 2 (det 37 _) (.tail _ (.tail _ (.tail _ (.tail _ (.tail _ (.tail _ (.tail _ (.tail _ (.tail _ (.tail _ (.tail _ (.tail _ (.tail _ (.head _))))))))))))))
        have e38 : ax.eval (.tmp 38) = _ := hF 3 (det 38 _) (.tail _ (.tail _ (.tail _ (.tail _ (.tail _ (.tail _ (.tail _ (.tail _ (.tail _ (.tail _ (.tail _ (.tail _ (.head _)))))))))))))
        have e39 : ax.eval (.tmp 39) = _ := hF 4 (det 39 _) (.tail _ (.tail _ (.tail _ (.tail _ (.tail _ (.tail _ (.tail _ (.tail _ (.tail _ (.tail _ (.tail _ (.head _))))))))))))
        have e40 : ax.eval (.tmp 40) = _ := hF 5 (det 40 _) (.tail _ (.tail _ (.tail _ (.tail _ (.tail _ (.tail _ (.tail _ (.tail _ (.tail _ (.tail _ (.head _)))))))))))
        have e41 : ax.eval (.tmp 41) = _ := hF 6 (det 41 _) (.tail _ (.tail _ (.tail _ (.tail _ (.tail _ (.tail _ (.tail _ (.tail _ (.tail _ (.head _))))))))))
        have e42 : ax.eval (.tmp 42) = _ := hF 7 (det 42 _) (.tail _ (.tail _ (.tail _ (.tail _ (.tail _ (.tail _ (.tail _ (.tail _ (.head _)))))))))
        have e43 : ax.eval (.tmp 43) = _ := hF 8 (det 43 _) (.tail _ (.tail _ (.tail _ (.tail _ (.tail _ (.tail _ (.tail _ (.head _))))))))
        have e44 : ax.eval (.tmp 44) = _ := hF 9 (det 44 _) (.tail _ (.tail _ (.tail _ (.tail _ (.tail _ (.tail _ (.head _)))))))
        have e45 : ax.eval (.tmp 45) = _ := hF 10 (det 45 _) (.tail _ (.tail _ (.tail _ (.tail _ (.tail _ (.head _))))))
        have e46 : ax.eval (.tmp 46) = _ := hF 11 (det 46 _) (.tail _ (.tail _ (.tail _ (.tail _ (.head _)))))
        have e47 : ax.eval (.tmp 47) = _ := hF 12 (det 47 _) (.tail _ (.tail _ (.tail _ (.head _))))
        have e48 : ax.eval (.tmp 48) = _ := hF 13 (det 48 _) (.tail _ (.tail _ (.head _)))
        have e6 : ax.eval (.tmp 6) = _ := hF 14 (det 6 _) (.tail _ (.head _))
        have e7 : ax.eval (.tmp 7) = _ := hF 15 (det 7 _) (.head _)
        rw [AllEq.frame (D := [35, 36, 37, 38, 39, 40, 41, 42, 43, 44, 45, 46, 47, 48, 6, 7]) (AllEq.cons e35 (AllEq.cons e36 (AllEq.cons e37 (AllEq.cons e38 (AllEq.cons e39 (AllEq.cons e40 (AllEq.cons e41 (AllEq.cons e42 (AllEq.cons e43 (AllEq.cons e44 (AllEq.cons e45 (AllEq.cons e46 (AllEq.cons e47 (AllEq.cons e48 (AllEq.cons e6 (AllEq.cons e7 (AllEq.nil))))))))))))))))) hE rfl]
        clear hF hE e35 e36 e37 e38 e39 e40 e41 e42 e43 e44 e45 e46 e47 e48 e6 e7
        simp only [List.foldl_cons, List.foldl_nil, Act.put, List.setIfInBounds_toArray, List.set_cons_succ, List.set_cons_zero]
        have HE := Lib.hid (HO.out.ext R3).below
        clear R3
        go_wp2_with fail
        go_ret2
        exact ⟨by rw [HZ.out]; rfl, HE.out⟩
      · have HZ := Lib.hid (show decide (n < len ∧ atO X n = (x1, x2, x3)) = false from decide_eq_false (fun h => hnl h.1))
        have HE0 := Lib.hid (show n = len by omega)
        go_upto_region 8 with fail
        refine wp_typed (R := Ext) (w0 := wr) [[], [], [], [1, 2], [1, 2, 3], [1, 2, 3, 4], [1, 2, 3, 4], [1, 2, 3, 4], [1, 2, 3, 4, 6, 7], [1, 2, 3, 4, 6, 7, 8], [1, 2, 3, 4], [1, 2, 3, 4, 5, 6, 7, 8, 9, 10], [1, 2, 3, 4, 5, 6, 7, 8, 9, 10, 11], [1, 2, 3, 4, 5, 6, 7, 8, 9, 10, 11, 12], [0, 1, 2, 3, 4, 5, 6, 7, 8, 9, 10, 11], [0, 1, 2, 3, 4, 5, 6, 7, 8, 9, 10, 11, 12, 13, 14]] [35, 36, 37, 38, 39, 40, 41, 42, 43, 44, 45, 46, 47, 48, 6, 7] Ext.refl (fun _ _ _ => Ext.trans) (Ext.drew _) (by kernel_rfl) ?_
        apply Build.det 35 Ext.refl (by rfl) (by rfl) rfl
        case h =>   -- 0: t35 := Op.move (tmp 9)
          intro ax wx hE hR hF
          have e9 : ax.eval (.tmp 9) = .int .i64 n := hE.eval 9 (by rfl) rfl
          simp [go_sem, BigFrame.eval_const, BigFrame.eval_global, BigFrame.eval_func, ↓IntWalk.iteOmega, ev e9]
          with_reducible rfl
        apply Build.det 36 Ext.refl (by rfl) (by rfl) rfl
        case h =>   -- 1: t36 := Op.move (tmp 9)
          intro ax wx hE hR hF
          have e9 : ax.eval (.tmp 9) = .int .i64 n := hE.eval 9 (by rfl) rfl
          simp [go_sem, BigFrame.eval_const, BigFrame.eval_global, BigFrame.eval_func, ↓IntWalk.iteOmega, ev e9]
          with_reducible rfl
        apply Build.det 37 Ext.refl (by rfl) (by rfl) rfl
        case h =>   -- 2: t37 := Op.move (tmp 8)
          intro ax wx hE hR hF
          have e8 : ax.eval (.tmp 8) = .int .i64 len := hE.eval 8 (by rfl) rfl
          simp [go_sem, BigFrame.eval_const, BigFrame.eval_global, BigFrame.eval_func, ↓IntWalk.iteOmega, ev e8]
          with_reducible rfl
        apply Build.det 38 Ext.refl (by rfl) (by rfl) rfl
        case h =>   -- 3: t38 := Op.binOp BinOp.lss 3 (tmp 36) (tmp 37) 3
          intro ax wx hE hR hF
          have e36 : ax.eval (.tmp 36) = _ := hF 1 (det 36 _) (by decide) (.tail _ (.head _))
          have e37 : ax.eval (.tmp 37) = _ := hF 2 (det 37 _) (by decide) (.head _)
          simp [go_sem, BigFrame.eval_const, BigFrame.eval_global, BigFrame.eval_func, ↓IntWalk.iteOmega, ev e36, ev e37, hnl]
          with_reducible rfl
        apply Build.det 39 Ext.refl (by rfl) (by rfl) rfl
        case h =>   -- 4: t39 := Op.move (tmp 38)
          intro ax wx hE hR hF
          have e38 : ax.eval (.tmp 38) = _ := hF 3 (det 38 _) (by decide) (.head _)
          simp [go_sem, BigFrame.eval_const, BigFrame.eval_global, BigFrame.eval_func, ↓IntWalk.iteOmega, ev e38]
          with_reducible rfl
        refine Build.skip 40 (by rfl) (by rfl) rfl rfl ?_ ?_
        · intro ax wx hE hR hF
          have e2 : ax.eval (.tmp 2) = .func (.func 67) #[] #[] := hE.eval 2 (by rfl) rfl
          have e39 : ax.eval (.tmp 39) = _ := hF 4 (det 39 _) (by decide) (.head _)
          exact e39
        refine Build.skip 41 (by rfl) (by rfl) rfl rfl ?_ ?_
        · intro ax wx hE hR hF
          have e0 : ax.eval (.tmp 0) = .slice A len cap := hE.eval 0 (by rfl) rfl
          have e39 : ax.eval (.tmp 39) = _ := hF 4 (det 39 _) (by decide) (.tail _ (.head _))
          exact e39
        refine Build.skip 42 (by rfl) (by rfl) rfl rfl ?_ ?_
        · intro ax wx hE hR hF
          have e9 : ax.eval (.tmp 9) = .int .i64 n := hE.eval 9 (by rfl) rfl
          have e39 : ax.eval (.tmp 39) = _ := hF 4 (det 39 _) (by decide) (.tail _ (.tail _ (.head _)))
          exact e39
        refine Build.skip 43 (by rfl) (by rfl) rfl rfl ?_ ?_
        · intro ax wx hE hR hF
          have e39 : ax.eval (.tmp 39) = _ := hF 4 (det 39 _) (by decide) (.tail _ (.tail _ (.tail _ (.head _))))
          have e41 : ax.eval (.tmp 41) = _ := hF 6 (det 41 _) (by decide) (.tail _ (.head _))
          have e42 : ax.eval (.tmp 42) = _ := hF 7 (det 42 _) (by decide) (.head _)
          exact e39
        refine Build.skip 44 (by rfl) (by rfl) rfl rfl ?_ ?_
        · intro ax wx hE hR hF
          have e39 : ax.eval (.tmp 39) = _ := hF 4 (det 39 _) (by decide) (.tail _ (.tail _ (.tail _ (.tail _ (.head _)))))
          have e43 : ax.eval (.tmp 43) = _ := hF 8 (det 43 _) (by decide) (.head _)
          exact e39
        refine Build.skip 45 (by rfl) (by rfl) rfl rfl ?_ ?_
        · intro ax wx hE hR hF
          have e4 : ax.eval (.tmp 4) = .pointer (some ⟨g, 0, none⟩) := hE.eval 4 (by rfl) rfl
          have e39 : ax.eval (.tmp 39) = _ := hF 4 (det 39 _) (by decide) (.tail _ (.tail _ (.tail _ (.tail _ (.tail _ (.head _))))))
          exact e39
        refine Build.skip 46 (by rfl) (by rfl) rfl rfl ?_ ?_
        · intro ax wx hE hR hF
          have e39 : ax.eval (.tmp 39) = _ := hF 4 (det 39 _) (by decide) (.tail _ (.tail _ (.tail _ (.tail _ (.tail _ (.tail _ (.head _)))))))
          have e40 : ax.eval (.tmp 40) = _ := hF 5 (det 40 _) (by decide) (.tail _ (.tail _ (.tail _ (.tail _ (.tail _ (.head _))))))
          have e44 : ax.eval (.tmp 44) = _ := hF 9 (det 44 _) (by decide) (.tail _ (.head _))
          have e45 : ax.eval (.tmp 45) = _ := hF 10 (det 45 _) (by decide) (.head _)
          exact e39
        refine Build.skip 47 (by rfl) (by rfl) rfl rfl ?_ ?_
        · intro ax wx hE hR hF
          have e39 : ax.eval (.tmp 39) = _ := hF 4 (det 39 _) (by decide) (.tail _ (.tail _ (.tail _ (.tail _ (.tail _ (.tail _ (.tail _ (.head _))))))))
          have e46 : ax.eval (.tmp 46) = _ := hF 11 (det 46 _) (by decide) (.head _)
          exact e39
        apply Build.det 48 Ext.refl (by rfl) (by rfl) rfl
        case h =>   -- 13: t48 := Op.pick (tmp 39) (tmp 47) (const (Value.bool false))
          intro ax wx hE hR hF
          have e39 : ax.eval (.tmp 39) = _ := hF 4 (det 39 _) (by decide) (.tail _ (.tail _ (.tail _ (.tail _ (.tail _ (.tail _ (.tail _ (.tail _ (.head _)))))))))
          have e47 : ax.eval (.tmp 47) = _ := hF 12 (det 47 _) (by decide) (.head _)
          simp [go_sem, BigFrame.eval_const, BigFrame.eval_global, BigFrame.eval_func, ↓IntWalk.iteOmega, ev e39, ev e47]
          with_reducible rfl
        apply Build.det 6 Ext.refl (by rfl) (by rfl) rfl
        case h =>   -- 14: t6 := Op.assign (tmp 35)
          intro ax wx hE hR hF
          have e35 : ax.eval (.tmp 35) = _ := hF 0 (det 35 _) (by decide) (.tail _ (.tail _ (.tail _ (.tail _ (.tail _ (.tail _ (.tail _ (.tail _ (.tail _ (.tail _ (.tail _ (.tail _ (.tail _ (.head _))))))))))))))
          simp [go_sem, BigFrame.eval_const, BigFrame.eval_global, BigFrame.eval_func, ↓IntWalk.iteOmega, ev e35]
          with_reducible rfl
        apply Build.det 7 Ext.refl (by rfl) (by rfl) rfl
        case h =>   -- 15: t7 := Op.assign (tmp 48)
          intro ax wx hE hR hF
          have e48 : ax.eval (.tmp 48) = _ := hF 13 (det 48 _) (by decide) (.tail _ (.head _))
          simp [go_sem, BigFrame.eval_const, BigFrame.eval_global, BigFrame.eval_func, ↓IntWalk.iteOmega, ev e48]
          with_reducible rfl
        apply Build.stop
        refine ⟨by kernel_rfl, .inl ⟨rfl, ?_⟩⟩
        intro ax w3 hE R3 hF
        have e35 : ax.eval (.tmp 35) = _ := hF 0 (det 35 _) (.tail _ (.tail _ (.tail _ (.tail _ (.tail _ (.tail _ (.tail _ (.tail _ (.tail _ (.tail _ (.tail _ (.tail _ (.tail _ (.tail _ (.tail _ (.head _))))))))))))))))
        have e36 : ax.eval (.tmp 36) = _ := hF 1 (det 36 _) (.tail _ (.tail _ (.tail _ (.tail _ (.tail _ (.tail _ (.tail _ (.tail _ (.tail _ (.tail _ (.tail _ (.tail _ (.tail _ (.tail _ (.head _)))))))))))))))
        have e37 : ax.eval (.tmp 37) = _ := hF 2 (det 37 _) (.tail _ (.tail _ (.tail _ (.tail _ (.tail _ (.tail _ (.tail _ (.tail _ (.tail _ (.tail _ (.tail _ (.tail _ (.tail _ (.head _))))))))))))))
        have e38 : ax.eval (.tmp 38) = _ := hF 3 (det 38 _) (.tail _ (.tail _ (.tail _ (.tail _ (.tail _ (.tail _ (.tail _ (.tail _ (.tail _ (.tail _ (.tail _ (.tail _ (.head _)))))))))))))
        have e39 : ax.eval (.tmp 39) = _ := hF 4 (det 39 _) (.tail _ (.tail _ (.tail _ (.tail _ (.tail _ (.tail _ (.tail _ (.tail _ (.tail _ (.tail _ (.tail _ (.head _))))))))))))
        have e40 : ax.eval (.tmp 40) = _ := hF 5 (det 40 _) (.tail _ (.tail _ (.tail _ (.tail _ (.tail _ (.tail _ (.tail _ (.tail _ (.tail _ (.tail _ (.head _)))))))))))
        have e41 : ax.eval (.tmp 41) = _ := hF 6 (det 41 _) (.tail _ (.tail _ (.tail _ (.tail _ (.tail _ (.tail _ (.tail _ (.tail _ (.tail _ (.head _))))))))))
        have e42 : ax.eval (.tmp 42) = _ := hF 7 (det 42 _) (.tail _ (.tail _ (.tail _ (.tail _ (.tail _ (.tail _ (.tail _ (.tail _ (.head _)))))))))
        have e43 : ax.eval (.tmp 43) = _ := hF 8 (det 43 _) (.tail _ (.tail _ (.tail _ (.tail _ (.tail _ (.tail _ (.tail _ (.head _))))))))
        have e44 : ax.eval (.tmp 44) = _ := hF 9 (det 44 _) (.tail _ (.tail _ (.tail _ (.tail _ (.tail _ (.tail _ (.head _)))))))
        have e45 : ax.eval (.tmp 45) = _ := hF 10 (det 45 _) (.tail _ (.tail _ (.tail _ (.tail _ (.tail _ (.head _))))))
        have e46 : ax.eval (.tmp 46) = _ := hF 11 (det 46 _) (.tail _ (.tail _ (.tail _ (.tail _ (.head _)))))
        have e47 : ax.eval (.tmp 47) = _ := hF 12 (det 47 _) (.tail _ (.tail _ (.tail _ (.head _))))
        have e48 : ax.eval (.tmp 48) = _ := hF 13 (det 48 _) (.tail _ (.tail _ (.head _)))
        have e6 : ax.eval (.tmp 6) = _ := hF 14 (det 6 _) (.tail _ (.head _))
        have e7 : ax.eval (.tmp 7) = _ := hF 15 (det 7 _) (.head _)
        rw [AllEq.frame (D := [35, 36, 37, 38, 39, 40, 41, 42, 43, 44, 45, 46, 47, 48, 6, 7]) (AllEq.cons e35 (AllEq.cons e36 (AllEq.cons e37 (AllEq.cons e38 (AllEq.cons e39 (AllEq.cons e40 (AllEq.cons e41 (AllEq.cons e42 (AllEq.cons e43 (AllEq.cons e44 (AllEq.cons e45 (AllEq.cons e46 (AllEq.cons e47 (AllEq.cons e48 (AllEq.cons e6 (AllEq.cons e7 (AllEq.nil))))))))))))))))) hE rfl]
        clear hF hE e35 e36 e37 e38 e39 e40 e41 e42 e43 e44 e45 e46 e47 e48 e6 e7
        simp only [List.foldl_cons, List.foldl_nil, Act.put, List.setIfInBounds_toArray, List.set_cons_succ, List.set_cons_zero]
        have HE := Lib.hid (HO.out.ext R3).below
        clear R3
        go_wp2_with fail
        go_ret2
        exact ⟨by rw [HZ.out]; rfl, HE.out⟩
end Go.Proofs.Ytdpohbaeopidmaa
