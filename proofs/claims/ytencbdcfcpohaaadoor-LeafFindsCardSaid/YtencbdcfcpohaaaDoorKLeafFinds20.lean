/- LeafFinds: of every node whose pairs rise, and each key, where it is found. Printed by gen_leafr.py. -/
import Derived.Test.YtencbdcfcpohaaaDoorKLeafFinds19
namespace Go.Proofs.YtencbdcfcpohaaaDoor
set_option linter.unusedVariables false
set_option linter.unusedSimpArgs false
open Go.RowKit

def belowN (xs : List (Nat × Nat)) (key : Nat) : Nat → Nat
  | 0 => 0
  | j + 1 => belowN xs key j + if keyAt xs j < key then 1 else 0
def uptoN (xs : List (Nat × Nat)) (key : Nat) : Nat → Nat
  | 0 => 0
  | j + 1 => uptoN xs key j + if keyAt xs j ≤ key then 1 else 0
def isN (xs : List (Nat × Nat)) (key : Nat) : Nat → Bool
  | 0 => false
  | j + 1 => isN xs key j || decide (keyAt xs j = key)
theorem belowN_le (xs : List (Nat × Nat)) (key j : Nat) : belowN xs key j ≤ j := by
  induction j with
  | zero => exact Nat.le_refl _
  | succ j ih => unfold belowN; split <;> omega
theorem uptoN_le (xs : List (Nat × Nat)) (key j : Nat) : uptoN xs key j ≤ j := by
  induction j with
  | zero => exact Nat.le_refl _
  | succ j ih => unfold uptoN; split <;> omega
theorem rise_lt {xs : List (Nat × Nat)} (h : ∀ i, i + 1 < xs.length → keyAt xs i < keyAt xs (i + 1)) (i k : Nat) (hik : i < k) (hk : k < xs.length) : keyAt xs i < keyAt xs k := by
  induction k with
  | zero => omega
  | succ k ih =>
    have := h k hk
    by_cases e : i = k
    · subst e; exact this
    · have := ih (by omega) (by omega); omega
theorem counts {xs : List (Nat × Nat)} {key n : Nat} (h : ∀ i, i + 1 < xs.length → keyAt xs i < keyAt xs (i + 1)) (hp : Place xs key n) (j : Nat) (hj : j ≤ xs.length) :
    belowN xs key j = min j n ∧ uptoN xs key j = min j n + (if n < j ∧ keyAt xs n = key then 1 else 0) ∧ isN xs key j = decide (n < j ∧ keyAt xs n = key) := by
  induction j with
  | zero => simp [belowN, uptoN, isN]
  | succ j ih =>
    obtain ⟨h1, h2, h3⟩ := ih (by omega)
    unfold belowN uptoN isN
    rw [h1, h2, h3]
    rcases Nat.lt_trichotomy j n with hjn | hjn | hjn
    · have hb := hp.below j hjn
      have e1 : ¬ (n < j ∧ keyAt xs n = key) := fun h => by omega
      have e2 : ¬ (n < j + 1 ∧ keyAt xs n = key) := fun h => by omega
      rw [if_pos hb, if_neg e1, if_neg e2, if_pos (show keyAt xs j ≤ key by omega), decide_eq_false e1, decide_eq_false e2, decide_eq_false (show ¬ keyAt xs j = key by omega)]
      refine ⟨by omega, by omega, rfl⟩
    · subst hjn
      have hb := hp.above j (Nat.le_refl _) (by omega)
      have e1 : ¬ (j < j ∧ keyAt xs j = key) := fun h => by omega
      rw [if_neg (show ¬ keyAt xs j < key by omega), if_neg e1, decide_eq_false e1]
      by_cases e : keyAt xs j = key
      · rw [if_pos (show keyAt xs j ≤ key by omega), if_pos (show j < j + 1 ∧ keyAt xs j = key from ⟨by omega, e⟩), decide_eq_true e, decide_eq_true (show j < j + 1 ∧ keyAt xs j = key from ⟨by omega, e⟩)]
        exact ⟨by omega, by omega, rfl⟩
      · rw [if_neg (show ¬ keyAt xs j ≤ key by omega), if_neg (show ¬ (j < j + 1 ∧ keyAt xs j = key) from fun h => e h.2), decide_eq_false e, decide_eq_false (show ¬ (j < j + 1 ∧ keyAt xs j = key) from fun h => e h.2)]
        exact ⟨by omega, by omega, rfl⟩
    · have hb := hp.above n (Nat.le_refl _) (by omega)
      have hl := rise_lt h n j hjn (by omega)
      have e0 : ¬ keyAt xs j = key := by omega
      rw [if_neg (show ¬ keyAt xs j < key by omega), if_neg (show ¬ keyAt xs j ≤ key by omega), decide_eq_false e0, Bool.or_false]
      have e1 : (n < j ∧ keyAt xs n = key) ↔ (n < j + 1 ∧ keyAt xs n = key) := by constructor <;> rintro ⟨a, b⟩ <;> exact ⟨by omega, b⟩
      simp only [e1]
      refine ⟨by omega, by omega, trivial⟩

set_option maxRecDepth 100000 in
set_option maxHeartbeats 8000000 in
theorem leafFinds_core (lv : Int) (A : Option Addr) (len cap : Nat) (xs : List (Nat × Nat)) (key : Nat) (w : World) (hlen : xs.length = len) (hm : len ≤ maxLen) (hrow : Row w A 2 pairC xs) (hx : ∀ x ∈ xs, x.1 < 18446744073709551616) (hkey : key < 18446744073709551616) :
    Calls Tryd.prog 8 #[.agg #[.int .i64 lv, .slice A len cap], .int .u64 key] w fun e w' => e = .returned (.bool true) ∧ Ext w w' := by
  unfold maxLen at hm
  have hE := Ext.alloc w (.cells #[.int .i64 lv, .slice A len cap] 60)
  have hX : Blk (w.alloc (.cells #[.int .i64 lv, .slice A len cap] 60)) w.heap.size 60 #[.int .i64 lv, .slice A len cap] := Blk.new _ _ _
  have hkk : ∀ j, keyAt xs j < 18446744073709551616 := by
    intro j
    unfold keyAt
    by_cases hj : j < xs.length
    · have := hx _ (List.getElem_mem hj); simpa [List.getD, hj] using this
    · simp [List.getD, hj]
  have HKK := Lib.hid hkk
  clear hx hkk
  go_enter Tryd.func8, Tryd.ntmps8
  go_wp2_with fail
  refine (awake5 _).mono ?_
  rintro e w1 ⟨rfl, R1⟩
  have hX1 := hX.ext R1
  have HX := Lib.hid hX1
  have HR0 := Lib.hid (hE.trans R1)
  have hrow1 := (hrow.ext hE).ext R1
  clear hX hE hrow R1
  have q0 := hX1.cell 0
  have q1 := hX1.cell 1
  clear hX1
  by_cases h40 : 40 < len
  · have d40 : decide ((40 : Int) < (len : Int)) = true := by rw [decide_eq_true_iff]; omega
    have hEx := Ext.refl w1
    go_wp2_with fail
    go_ret
    exact ⟨rfl, HR0.out.trans hEx⟩
  · have d40 : decide ((40 : Int) < (len : Int)) = false := by rw [decide_eq_false_iff_not]; omega
    go_upto_region 9 with fail
    clear q0 q1
    go_loopw [5, 6, 7, 8] (fun b u s i wr => ∃ j : Nat, b = .int .i64 (belowN xs key j) ∧ u = .int .i64 (uptoN xs key j) ∧ s = .bool (isN xs key j) ∧ i = .int .i64 j ∧ j ≤ len ∧ Ext w1 wr ∧ Hid (∀ i, i + 1 < j → keyAt xs i < keyAt xs (i + 1))) (fun _ _ _ i _ => len - (intOf i).toNat)
    case atStart => exact ⟨0, rfl, rfl, rfl, rfl, by omega, Ext.refl _, fun i hi => absurd hi (by omega)⟩
    case round =>
      obtain ⟨j, rfl, rfl, rfl, rfl, hj, hEx, HJ⟩ := hrel
      have q0 := (HX.out.ext hEx).cell 0
      have q1 := (HX.out.ext hEx).cell 1
      by_cases hlt : j < len
      · have hjx : j < xs.length := by omega
        obtain ⟨b0, o0, rfl, hlt0, -, -⟩ := hrow1.pair_in hEx hjx
        have HQ := Lib.hid (fun (W : World) (h : Ext wr W) => hrow1.key_at (hEx.trans h) hjx)
        have HXX := Lib.hid (fun (W : World) (h : Ext wr W) => (HX.out.ext hEx).ext h)
        obtain ⟨K, hK⟩ : ∃ K, keyAt xs j = K := ⟨_, rfl⟩
        obtain ⟨b, hb⟩ : ∃ b, belowN xs key j = b := ⟨_, rfl⟩
        obtain ⟨u, hu⟩ : ∃ b, uptoN xs key j = b := ⟨_, rfl⟩
        obtain ⟨S, hS⟩ : ∃ b, isN xs key j = b := ⟨_, rfl⟩
        have hb40 : b ≤ 40 := by rw [← hb]; have := belowN_le xs key j; omega
        have hu40 : u ≤ 40 := by rw [← hu]; have := uptoN_le xs key j; omega
        have hKl : K < 18446744073709551616 := by rw [← hK]; exact HKK.out j
        rw [hK] at HQ
        rw [hb, hu, hS]
        have HK := Lib.hid hK
        have HB := Lib.hid hb
        have HU := Lib.hid hu
        have HS := Lib.hid hS
        clear hK hb hu hS
        have hwb : IntKind.i64.wrap ((b : Int) + 1) = (b : Int) + 1 := IntWalk.i64_in _ (by omega)
        have hwu : IntKind.i64.wrap ((u : Int) + 1) = (u : Int) + 1 := IntWalk.i64_in _ (by omega)
        cases j with
        | zero =>
          have HJ2 : Hid (∀ i, i + 1 < 0 + 1 → keyAt xs i < keyAt xs (i + 1)) := fun i hi => absurd hi (by omega)
          have hsub2 : IntKind.i64.wrap ((0 : Nat) : Int) = ((0 : Nat) : Int) := rfl
          go_upto_region 11 with fail
          refine wp_typed (R := Ext) (w0 := wr) [[], [0], [0, 1], [0, 1, 2], [0, 1, 2, 3], [0, 1, 2], [0, 1, 2, 5], [0, 1, 2, 3, 4, 5, 6], [0, 1, 2, 3, 4, 5, 6, 7], [0, 1, 2, 3, 4, 5, 6, 7, 8], [0, 1, 2], [0, 1, 2, 10], [0, 1, 2], [0, 1, 2, 10, 11, 12], [0, 1, 2, 10, 11, 12, 13], [0, 1, 2, 10, 11, 12, 13, 14], [0, 1, 2, 3, 4, 5, 6, 7, 8, 9, 10, 11, 12, 13, 14, 15], [0, 1, 2, 3, 4, 5, 6, 7, 8, 9, 10, 11, 12, 13, 14, 15, 16]] [24, 25, 26, 27, 28, 29, 30, 31, 32, 33, 34, 35, 36, 37, 38, 39, 40, 41] Ext.refl (fun _ _ _ => Ext.trans) (Ext.drew _) (by kernel_rfl) ?_
          apply Build.det 24 Ext.refl (by rfl) (by rfl) rfl
          case h =>   -- 0: t24 := Op.move (tmp 8)
            intro ax wx hE hR hF
            have e8 : ax.eval (.tmp 8) = .int .i64 0 := hE.eval 8 (by rfl) rfl
            simp [go_sem, BigFrame.eval_const, BigFrame.eval_global, BigFrame.eval_func, ↓IntWalk.iteOmega, ev e8, hsub2]
            with_reducible rfl
          apply Build.det 25 Ext.refl (by rfl) (by rfl) rfl
          case h =>   -- 1: t25 := Op.binOp BinOp.gtr 3 (tmp 24) (const (Value.int IntKind.i64 0)) 3
            intro ax wx hE hR hF
            have e24 : ax.eval (.tmp 24) = _ := hF 0 (det 24 _) (by decide) (.head _)
            simp [go_sem, BigFrame.eval_const, BigFrame.eval_global, BigFrame.eval_func, ↓IntWalk.iteOmega, ev e24, hsub2]
            with_reducible rfl
          apply Build.det 26 Ext.refl (by rfl) (by rfl) rfl
          case h =>   -- 2: t26 := Op.move (tmp 25)
            intro ax wx hE hR hF
            have e25 : ax.eval (.tmp 25) = _ := hF 1 (det 25 _) (by decide) (.head _)
            simp [go_sem, BigFrame.eval_const, BigFrame.eval_global, BigFrame.eval_func, ↓IntWalk.iteOmega, ev e25, hsub2]
            with_reducible rfl
          refine Build.skip 27 (by rfl) (by rfl) rfl rfl ?_ ?_
          · intro ax wx hE hR hF
            have e2 : ax.eval (.tmp 2) = .pointer (some ⟨w.heap.size, 0, none⟩) := hE.eval 2 (by rfl) rfl
            have e26 : ax.eval (.tmp 26) = _ := hF 2 (det 26 _) (by decide) (.head _)
            exact e26
          refine Build.skip 28 (by rfl) (by rfl) rfl rfl ?_ ?_
          · intro ax wx hE hR hF
            have e26 : ax.eval (.tmp 26) = _ := hF 2 (det 26 _) (by decide) (.tail _ (.head _))
            have e27 : ax.eval (.tmp 27) = _ := hF 3 (det 27 _) (by decide) (.head _)
            exact e26
          refine Build.skip 29 (by rfl) (by rfl) rfl rfl ?_ ?_
          · intro ax wx hE hR hF
            have e8 : ax.eval (.tmp 8) = .int .i64 0 := hE.eval 8 (by rfl) rfl
            have e26 : ax.eval (.tmp 26) = _ := hF 2 (det 26 _) (by decide) (.tail _ (.tail _ (.head _)))
            exact e26
          refine Build.skip 30 (by rfl) (by rfl) rfl rfl ?_ ?_
          · intro ax wx hE hR hF
            have e26 : ax.eval (.tmp 26) = _ := hF 2 (det 26 _) (by decide) (.tail _ (.tail _ (.tail _ (.head _))))
            have e29 : ax.eval (.tmp 29) = _ := hF 5 (det 29 _) (by decide) (.head _)
            exact e26
          refine Build.skip 31 (by rfl) (by rfl) rfl rfl ?_ ?_
          · intro ax wx hE hR hF
            have e26 : ax.eval (.tmp 26) = _ := hF 2 (det 26 _) (by decide) (.tail _ (.tail _ (.tail _ (.tail _ (.head _)))))
            have e28 : ax.eval (.tmp 28) = _ := hF 4 (det 28 _) (by decide) (.tail _ (.tail _ (.head _)))
            have e30 : ax.eval (.tmp 30) = _ := hF 6 (det 30 _) (by decide) (.head _)
            exact e26
          refine Build.skip 32 (by rfl) (by rfl) rfl rfl ?_ ?_
          · intro ax wx hE hR hF
            have e26 : ax.eval (.tmp 26) = _ := hF 2 (det 26 _) (by decide) (.tail _ (.tail _ (.tail _ (.tail _ (.tail _ (.head _))))))
            have e31 : ax.eval (.tmp 31) = _ := hF 7 (det 31 _) (by decide) (.head _)
            exact e26
          refine Build.skip 33 (by rfl) (by rfl) rfl rfl ?_ ?_
          · intro ax wx hE hR hF
            have e26 : ax.eval (.tmp 26) = _ := hF 2 (det 26 _) (by decide) (.tail _ (.tail _ (.tail _ (.tail _ (.tail _ (.tail _ (.head _)))))))
            have e32 : ax.eval (.tmp 32) = _ := hF 8 (det 32 _) (by decide) (.head _)
            exact e26
          refine Build.skip 34 (by rfl) (by rfl) rfl rfl ?_ ?_
          · intro ax wx hE hR hF
            have e2 : ax.eval (.tmp 2) = .pointer (some ⟨w.heap.size, 0, none⟩) := hE.eval 2 (by rfl) rfl
            have e26 : ax.eval (.tmp 26) = _ := hF 2 (det 26 _) (by decide) (.tail _ (.tail _ (.tail _ (.tail _ (.tail _ (.tail _ (.tail _ (.head _))))))))
            exact e26
          refine Build.skip 35 (by rfl) (by rfl) rfl rfl ?_ ?_
          · intro ax wx hE hR hF
            have e26 : ax.eval (.tmp 26) = _ := hF 2 (det 26 _) (by decide) (.tail _ (.tail _ (.tail _ (.tail _ (.tail _ (.tail _ (.tail _ (.tail _ (.head _)))))))))
            have e34 : ax.eval (.tmp 34) = _ := hF 10 (det 34 _) (by decide) (.head _)
            exact e26
          refine Build.skip 36 (by rfl) (by rfl) rfl rfl ?_ ?_
          · intro ax wx hE hR hF
            have e8 : ax.eval (.tmp 8) = .int .i64 0 := hE.eval 8 (by rfl) rfl
            have e26 : ax.eval (.tmp 26) = _ := hF 2 (det 26 _) (by decide) (.tail _ (.tail _ (.tail _ (.tail _ (.tail _ (.tail _ (.tail _ (.tail _ (.tail _ (.head _))))))))))
            exact e26
          refine Build.skip 37 (by rfl) (by rfl) rfl rfl ?_ ?_
          · intro ax wx hE hR hF
            have e26 : ax.eval (.tmp 26) = _ := hF 2 (det 26 _) (by decide) (.tail _ (.tail _ (.tail _ (.tail _ (.tail _ (.tail _ (.tail _ (.tail _ (.tail _ (.tail _ (.head _)))))))))))
            have e35 : ax.eval (.tmp 35) = _ := hF 11 (det 35 _) (by decide) (.tail _ (.head _))
            have e36 : ax.eval (.tmp 36) = _ := hF 12 (det 36 _) (by decide) (.head _)
            exact e26
          refine Build.skip 38 (by rfl) (by rfl) rfl rfl ?_ ?_
          · intro ax wx hE hR hF
            have e26 : ax.eval (.tmp 26) = _ := hF 2 (det 26 _) (by decide) (.tail _ (.tail _ (.tail _ (.tail _ (.tail _ (.tail _ (.tail _ (.tail _ (.tail _ (.tail _ (.tail _ (.head _))))))))))))
            have e37 : ax.eval (.tmp 37) = _ := hF 13 (det 37 _) (by decide) (.head _)
            exact e26
          refine Build.skip 39 (by rfl) (by rfl) rfl rfl ?_ ?_
          · intro ax wx hE hR hF
            have e26 : ax.eval (.tmp 26) = _ := hF 2 (det 26 _) (by decide) (.tail _ (.tail _ (.tail _ (.tail _ (.tail _ (.tail _ (.tail _ (.tail _ (.tail _ (.tail _ (.tail _ (.tail _ (.head _)))))))))))))
            have e38 : ax.eval (.tmp 38) = _ := hF 14 (det 38 _) (by decide) (.head _)
            exact e26
          refine Build.skip 40 (by rfl) (by rfl) rfl rfl ?_ ?_
          · intro ax wx hE hR hF
            have e26 : ax.eval (.tmp 26) = _ := hF 2 (det 26 _) (by decide) (.tail _ (.tail _ (.tail _ (.tail _ (.tail _ (.tail _ (.tail _ (.tail _ (.tail _ (.tail _ (.tail _ (.tail _ (.tail _ (.head _))))))))))))))
            have e33 : ax.eval (.tmp 33) = _ := hF 9 (det 33 _) (by decide) (.tail _ (.tail _ (.tail _ (.tail _ (.tail _ (.tail _ (.head _)))))))
            have e39 : ax.eval (.tmp 39) = _ := hF 15 (det 39 _) (by decide) (.head _)
            exact e26
          apply Build.det 41 Ext.refl (by rfl) (by rfl) rfl
          case h =>   -- 17: t41 := Op.pick (tmp 26) (tmp 40) (const (Value.bool false))
            intro ax wx hE hR hF
            have e26 : ax.eval (.tmp 26) = _ := hF 2 (det 26 _) (by decide) (.tail _ (.tail _ (.tail _ (.tail _ (.tail _ (.tail _ (.tail _ (.tail _ (.tail _ (.tail _ (.tail _ (.tail _ (.tail _ (.tail _ (.head _)))))))))))))))
            have e40 : ax.eval (.tmp 40) = _ := hF 16 (det 40 _) (by decide) (.head _)
            simp [go_sem, BigFrame.eval_const, BigFrame.eval_global, BigFrame.eval_func, ↓IntWalk.iteOmega, ev e26, ev e40, hsub2]
            with_reducible rfl
          apply Build.stop
          refine ⟨by kernel_rfl, .inl ⟨rfl, ?_⟩⟩
          intro ax w2 hE R2 hF
          have e24 : ax.eval (.tmp 24) = _ := hF 0 (det 24 _) (.tail _ (.tail _ (.tail _ (.tail _ (.tail _ (.tail _ (.tail _ (.tail _ (.tail _ (.tail _ (.tail _ (.tail _ (.tail _ (.tail _ (.tail _ (.tail _ (.tail _ (.head _))))))))))))))))))
          have e25 : ax.eval (.tmp 25) = _ := hF 1 (det 25 _) (.tail _ (.tail _ (.tail _ (.tail _ (.tail _ (.tail _ (.tail _ (.tail _ (.tail _ (.tail _ (.tail _ (.tail _ (.tail _ (.tail _ (.tail _ (.tail _ (.head _)))))))))))))))))
          have e26 : ax.eval (.tmp 26) = _ := hF 2 (det 26 _) (.tail _ (.tail _ (.tail _ (.tail _ (.tail _ (.tail _ (.tail _ (.tail _ (.tail _ (.tail _ (.tail _ (.tail _ (.tail _ (.tail _ (.tail _ (.head _))))))))))))))))
          have e27 : ax.eval (.tmp 27) = _ := hF 3 (det 27 _) (.tail _ (.tail _ (.tail _ (.tail _ (.tail _ (.tail _ (.tail _ (.tail _ (.tail _ (.tail _ (.tail _ (.tail _ (.tail _ (.tail _ (.head _)))))))))))))))
          have e28 : ax.eval (.tmp 28) = _ := hF 4 (det 28 _) (.tail _ (.tail _ (.tail _ (.tail _ (.tail _ (.tail _ (.tail _ (.tail _ (.tail _ (.tail _ (.tail _ (.tail _ (.tail _ (.head _))))))))))))))
          have e29 : ax.eval (.tmp 29) = _ := hF 5 (det 29 _) (.tail _ (.tail _ (.tail _ (.tail _ (.tail _ (.tail _ (.tail _ (.tail _ (.tail _ (.tail _ (.tail _ (.tail _ (.head _)))))))))))))
          have e30 : ax.eval (.tmp 30) = _ := hF 6 (det 30 _) (.tail _ (.tail _ (.tail _ (.tail _ (.tail _ (.tail _ (.tail _ (.tail _ (.tail _ (.tail _ (.tail _ (.head _))))))))))))
          have e31 : ax.eval (.tmp 31) = _ := hF 7 (det 31 _) (.tail _ (.tail _ (.tail _ (.tail _ (.tail _ (.tail _ (.tail _ (.tail _ (.tail _ (.tail _ (.head _)))))))))))
          have e32 : ax.eval (.tmp 32) = _ := hF 8 (det 32 _) (.tail _ (.tail _ (.tail _ (.tail _ (.tail _ (.tail _ (.tail _ (.tail _ (.tail _ (.head _))))))))))
          have e33 : ax.eval (.tmp 33) = _ := hF 9 (det 33 _) (.tail _ (.tail _ (.tail _ (.tail _ (.tail _ (.tail _ (.tail _ (.tail _ (.head _)))))))))
          have e34 : ax.eval (.tmp 34) = _ := hF 10 (det 34 _) (.tail _ (.tail _ (.tail _ (.tail _ (.tail _ (.tail _ (.tail _ (.head _))))))))
          have e35 : ax.eval (.tmp 35) = _ := hF 11 (det 35 _) (.tail _ (.tail _ (.tail _ (.tail _ (.tail _ (.tail _ (.head _)))))))
          have e36 : ax.eval (.tmp 36) = _ := hF 12 (det 36 _) (.tail _ (.tail _ (.tail _ (.tail _ (.tail _ (.head _))))))
          have e37 : ax.eval (.tmp 37) = _ := hF 13 (det 37 _) (.tail _ (.tail _ (.tail _ (.tail _ (.head _)))))
          have e38 : ax.eval (.tmp 38) = _ := hF 14 (det 38 _) (.tail _ (.tail _ (.tail _ (.head _))))
          have e39 : ax.eval (.tmp 39) = _ := hF 15 (det 39 _) (.tail _ (.tail _ (.head _)))
          have e40 : ax.eval (.tmp 40) = _ := hF 16 (det 40 _) (.tail _ (.head _))
          have e41 : ax.eval (.tmp 41) = _ := hF 17 (det 41 _) (.head _)
          rw [AllEq.frame (D := [24, 25, 26, 27, 28, 29, 30, 31, 32, 33, 34, 35, 36, 37, 38, 39, 40, 41]) (AllEq.cons e24 (AllEq.cons e25 (AllEq.cons e26 (AllEq.cons e27 (AllEq.cons e28 (AllEq.cons e29 (AllEq.cons e30 (AllEq.cons e31 (AllEq.cons e32 (AllEq.cons e33 (AllEq.cons e34 (AllEq.cons e35 (AllEq.cons e36 (AllEq.cons e37 (AllEq.cons e38 (AllEq.cons e39 (AllEq.cons e40 (AllEq.cons e41 (AllEq.nil))))))))))))))))))) hE rfl]
          clear hF hE e24 e25 e26 e27 e28 e29 e30 e31 e32 e33 e34 e35 e36 e37 e38 e39 e40 e41
          simp only [List.foldl_cons, List.foldl_nil, Act.put, List.setIfInBounds_toArray, List.set_cons_succ, List.set_cons_zero]
          have hX2 := HXX.out _ R2
          have hEx := hEx.trans R2
          clear q0 q1
          have q0 := hX2.cell 0
          have q1 := hX2.cell 1
          have p1 := HQ.out _ R2
          clear hX2 R2
          rw [Nat.zero_mul, Nat.add_zero] at p1
          cases S
          · rcases Nat.lt_trichotomy K key with hc | hc | hc
            ·
              have d1 : decide (K < key) = true := by rw [decide_eq_true_iff]; omega
              have d1i : decide ((K : Int) < (key : Int)) = true := by rw [decide_eq_true_iff]; omega
              have d2 : decide (K ≤ key) = true := by rw [decide_eq_true_iff]; omega
              have d2i : decide ((K : Int) ≤ (key : Int)) = true := by rw [decide_eq_true_iff]; omega
              have d3 : ((K : Int) == (key : Int)) = false := by rw [beq_eq_false_iff_ne]; omega
              have d3n : (K == key) = false := by rw [beq_eq_false_iff_ne]; omega
              have hb2 : Hid (belowN xs key (0 + 1) = b + 1) := by show _ + _ = _; rw [HB.out, if_pos (show keyAt xs 0 < key by have := HK.out; omega)] <;> rfl
              have hu2 : Hid (uptoN xs key (0 + 1) = u + 1) := by show _ + _ = _; rw [HU.out, if_pos (show keyAt xs 0 ≤ key by have := HK.out; omega)] <;> rfl
              have hs2 : Hid (isN xs key (0 + 1) = false) := by show (_ || _) = _; rw [HS.out]; rw [decide_eq_false (show ¬ keyAt xs 0 = key by have := HK.out; omega)]; rfl
              clear HB HU HS
              go_wp2_with fail
              go_roundw
              case rel => exact ⟨0 + 1, by rw [hb2.out] <;> go_num, by rw [hu2.out] <;> go_num, by rw [hs2.out] <;> rfl, by go_num, by omega, hEx, HJ2⟩
              case measure => simp [intOf]; omega
            ·
              have d1 : decide (K < key) = false := by rw [decide_eq_false_iff_not]; omega
              have d1i : decide ((K : Int) < (key : Int)) = false := by rw [decide_eq_false_iff_not]; omega
              have d2 : decide (K ≤ key) = true := by rw [decide_eq_true_iff]; omega
              have d2i : decide ((K : Int) ≤ (key : Int)) = true := by rw [decide_eq_true_iff]; omega
              have d3 : ((K : Int) == (key : Int)) = true := by simp; omega
              have d3n : (K == key) = true := by simp; omega
              have hb2 : Hid (belowN xs key (0 + 1) = b) := by show _ + _ = _; rw [HB.out, if_neg (show ¬ keyAt xs 0 < key by have := HK.out; omega)] <;> rfl
              have hu2 : Hid (uptoN xs key (0 + 1) = u + 1) := by show _ + _ = _; rw [HU.out, if_pos (show keyAt xs 0 ≤ key by have := HK.out; omega)] <;> rfl
              have hs2 : Hid (isN xs key (0 + 1) = true) := by show (_ || _) = _; rw [HS.out]; rw [decide_eq_true (show keyAt xs 0 = key by have := HK.out; omega)]; rfl
              clear HB HU HS
              go_wp2_with fail
              go_roundw
              case rel => exact ⟨0 + 1, by rw [hb2.out] <;> go_num, by rw [hu2.out] <;> go_num, by rw [hs2.out] <;> rfl, by go_num, by omega, hEx, HJ2⟩
              case measure => simp [intOf]; omega
            ·
              have d1 : decide (K < key) = false := by rw [decide_eq_false_iff_not]; omega
              have d1i : decide ((K : Int) < (key : Int)) = false := by rw [decide_eq_false_iff_not]; omega
              have d2 : decide (K ≤ key) = false := by rw [decide_eq_false_iff_not]; omega
              have d2i : decide ((K : Int) ≤ (key : Int)) = false := by rw [decide_eq_false_iff_not]; omega
              have d3 : ((K : Int) == (key : Int)) = false := by rw [beq_eq_false_iff_ne]; omega
              have d3n : (K == key) = false := by rw [beq_eq_false_iff_ne]; omega
              have hb2 : Hid (belowN xs key (0 + 1) = b) := by show _ + _ = _; rw [HB.out, if_neg (show ¬ keyAt xs 0 < key by have := HK.out; omega)] <;> rfl
              have hu2 : Hid (uptoN xs key (0 + 1) = u) := by show _ + _ = _; rw [HU.out, if_neg (show ¬ keyAt xs 0 ≤ key by have := HK.out; omega)] <;> rfl
              have hs2 : Hid (isN xs key (0 + 1) = false) := by show (_ || _) = _; rw [HS.out]; rw [decide_eq_false (show ¬ keyAt xs 0 = key by have := HK.out; omega)]; rfl
              clear HB HU HS
              go_wp2_with fail
              go_roundw
              case rel => exact ⟨0 + 1, by rw [hb2.out] <;> go_num, by rw [hu2.out] <;> go_num, by rw [hs2.out] <;> rfl, by go_num, by omega, hEx, HJ2⟩
              case measure => simp [intOf]; omega
          · rcases Nat.lt_trichotomy K key with hc | hc | hc
            ·
              have d1 : decide (K < key) = true := by rw [decide_eq_true_iff]; omega
              have d1i : decide ((K : Int) < (key : Int)) = true := by rw [decide_eq_true_iff]; omega
              have d2 : decide (K ≤ key) = true := by rw [decide_eq_true_iff]; omega
              have d2i : decide ((K : Int) ≤ (key : Int)) = true := by rw [decide_eq_true_iff]; omega
              have d3 : ((K : Int) == (key : Int)) = false := by rw [beq_eq_false_iff_ne]; omega
              have d3n : (K == key) = false := by rw [beq_eq_false_iff_ne]; omega
              have hb2 : Hid (belowN xs key (0 + 1) = b + 1) := by show _ + _ = _; rw [HB.out, if_pos (show keyAt xs 0 < key by have := HK.out; omega)] <;> rfl
              have hu2 : Hid (uptoN xs key (0 + 1) = u + 1) := by show _ + _ = _; rw [HU.out, if_pos (show keyAt xs 0 ≤ key by have := HK.out; omega)] <;> rfl
              have hs2 : Hid (isN xs key (0 + 1) = true) := by show (_ || _) = _; rw [HS.out]; rfl
              clear HB HU HS
              go_wp2_with fail
              go_roundw
              case rel => exact ⟨0 + 1, by rw [hb2.out] <;> go_num, by rw [hu2.out] <;> go_num, by rw [hs2.out] <;> rfl, by go_num, by omega, hEx, HJ2⟩
              case measure => simp [intOf]; omega
            ·
              have d1 : decide (K < key) = false := by rw [decide_eq_false_iff_not]; omega
              have d1i : decide ((K : Int) < (key : Int)) = false := by rw [decide_eq_false_iff_not]; omega
              have d2 : decide (K ≤ key) = true := by rw [decide_eq_true_iff]; omega
              have d2i : decide ((K : Int) ≤ (key : Int)) = true := by rw [decide_eq_true_iff]; omega
              have d3 : ((K : Int) == (key : Int)) = true := by simp; omega
              have d3n : (K == key) = true := by simp; omega
              have hb2 : Hid (belowN xs key (0 + 1) = b) := by show _ + _ = _; rw [HB.out, if_neg (show ¬ keyAt xs 0 < key by have := HK.out; omega)] <;> rfl
              have hu2 : Hid (uptoN xs key (0 + 1) = u + 1) := by show _ + _ = _; rw [HU.out, if_pos (show keyAt xs 0 ≤ key by have := HK.out; omega)] <;> rfl
              have hs2 : Hid (isN xs key (0 + 1) = true) := by show (_ || _) = _; rw [HS.out]; rfl
              clear HB HU HS
              go_wp2_with fail
              go_roundw
              case rel => exact ⟨0 + 1, by rw [hb2.out] <;> go_num, by rw [hu2.out] <;> go_num, by rw [hs2.out] <;> rfl, by go_num, by omega, hEx, HJ2⟩
              case measure => simp [intOf]; omega
            ·
              have d1 : decide (K < key) = false := by rw [decide_eq_false_iff_not]; omega
              have d1i : decide ((K : Int) < (key : Int)) = false := by rw [decide_eq_false_iff_not]; omega
              have d2 : decide (K ≤ key) = false := by rw [decide_eq_false_iff_not]; omega
              have d2i : decide ((K : Int) ≤ (key : Int)) = false := by rw [decide_eq_false_iff_not]; omega
              have d3 : ((K : Int) == (key : Int)) = false := by rw [beq_eq_false_iff_ne]; omega
              have d3n : (K == key) = false := by rw [beq_eq_false_iff_ne]; omega
              have hb2 : Hid (belowN xs key (0 + 1) = b) := by show _ + _ = _; rw [HB.out, if_neg (show ¬ keyAt xs 0 < key by have := HK.out; omega)] <;> rfl
              have hu2 : Hid (uptoN xs key (0 + 1) = u) := by show _ + _ = _; rw [HU.out, if_neg (show ¬ keyAt xs 0 ≤ key by have := HK.out; omega)] <;> rfl
              have hs2 : Hid (isN xs key (0 + 1) = true) := by show (_ || _) = _; rw [HS.out]; rfl
              clear HB HU HS
              go_wp2_with fail
              go_roundw
              case rel => exact ⟨0 + 1, by rw [hb2.out] <;> go_num, by rw [hu2.out] <;> go_num, by rw [hs2.out] <;> rfl, by go_num, by omega, hEx, HJ2⟩
              case measure => simp [intOf]; omega
        | succ p =>
          have HP := Lib.hid (fun (W : World) (h : Ext wr W) => hrow1.key_at (hEx.trans h) (show p < xs.length by omega))
          obtain ⟨K0, hK0⟩ : ∃ V, keyAt xs p = V := ⟨_, rfl⟩
          rw [hK0] at HP
          have HK0 := Lib.hid hK0
          clear hK0
          have hsub : IntKind.i64.wrap (((p + 1 : Nat) : Int) - 1) = (p : Int) := by rw [IntWalk.i64_in _ (by omega)]; omega
          have hsub2 : IntKind.i64.wrap (p : Int) = (p : Int) := IntWalk.i64_in _ (by omega)
          by_cases hk : K0 < K
          · have dk : decide ((K : Int) ≤ (K0 : Int)) = false := by rw [decide_eq_false_iff_not]; omega
            have dkn : decide (K ≤ K0) = false := by rw [decide_eq_false_iff_not]; omega
            have HJ2 : Hid (∀ i, i + 1 < p + 1 + 1 → keyAt xs i < keyAt xs (i + 1)) := fun i hi => by
              by_cases e : i = p
              · subst e; rw [HK0.out, HK.out]; exact hk
              · exact HJ.out i (by omega)
            go_upto_region 11 with fail
            refine wp_typed (R := Ext) (w0 := wr) [[], [0], [0, 1], [0, 1, 2], [0, 1, 2, 3], [0, 1, 2], [0, 1, 2, 5], [0, 1, 2, 3, 4, 5, 6], [0, 1, 2, 3, 4, 5, 6, 7], [0, 1, 2, 3, 4, 5, 6, 7, 8], [0, 1, 2], [0, 1, 2, 10], [0, 1, 2], [0, 1, 2, 10, 11, 12], [0, 1, 2, 10, 11, 12, 13], [0, 1, 2, 10, 11, 12, 13, 14], [0, 1, 2, 3, 4, 5, 6, 7, 8, 9, 10, 11, 12, 13, 14, 15], [0, 1, 2, 3, 4, 5, 6, 7, 8, 9, 10, 11, 12, 13, 14, 15, 16]] [24, 25, 26, 27, 28, 29, 30, 31, 32, 33, 34, 35, 36, 37, 38, 39, 40, 41] Ext.refl (fun _ _ _ => Ext.trans) (Ext.drew _) (by kernel_rfl) ?_
            apply Build.det 24 Ext.refl (by rfl) (by rfl) rfl
            case h =>   -- 0: t24 := Op.move (tmp 8)
              intro ax wx hE hR hF
              have e8 : ax.eval (.tmp 8) = .int .i64 (((p + 1 : Nat) : Int)) := hE.eval 8 (by rfl) rfl
              simp [go_sem, BigFrame.eval_const, BigFrame.eval_global, BigFrame.eval_func, ↓IntWalk.iteOmega, ev e8, hsub, hsub2, dk, dkn]
              with_reducible rfl
            apply Build.det 25 Ext.refl (by rfl) (by rfl) rfl
            case h =>   -- 1: t25 := Op.binOp BinOp.gtr 3 (tmp 24) (const (Value.int IntKind.i64 0)) 3
              intro ax wx hE hR hF
              have e24 : ax.eval (.tmp 24) = _ := hF 0 (det 24 _) (by decide) (.head _)
              simp [go_sem, BigFrame.eval_const, BigFrame.eval_global, BigFrame.eval_func, ↓IntWalk.iteOmega, ev e24, hsub, hsub2, dk, dkn]
              with_reducible rfl
            apply Build.det 26 Ext.refl (by rfl) (by rfl) rfl
            case h =>   -- 2: t26 := Op.move (tmp 25)
              intro ax wx hE hR hF
              have e25 : ax.eval (.tmp 25) = _ := hF 1 (det 25 _) (by decide) (.head _)
              simp [go_sem, BigFrame.eval_const, BigFrame.eval_global, BigFrame.eval_func, ↓IntWalk.iteOmega, ev e25, hsub, hsub2, dk, dkn]
              with_reducible rfl
            apply Build.detg 27 Ext.refl (by rfl) (by rfl) rfl rfl
            case h =>   -- 3: t27 := Op.fieldAddr 60 (tmp 2) 1
              intro ax wx hE hR hF
              have e2 : ax.eval (.tmp 2) = .pointer (some ⟨w.heap.size, 0, none⟩) := hE.eval 2 (by rfl) rfl
              have e26 : ax.eval (.tmp 26) = _ := hF 2 (det 26 _) (by decide) (.head _)
              refine ⟨e26, ?_⟩
              simp [go_sem, BigFrame.eval_const, BigFrame.eval_global, BigFrame.eval_func, ↓IntWalk.iteOmega, ev e2, ev e26, hsub, hsub2, dk, dkn]
              with_reducible rfl
            apply Build.detg 28 Ext.refl (by rfl) (by rfl) rfl rfl
            case h =>   -- 4: t28 := Op.load 58 (tmp 27)
              intro ax wx hE hR hF
              have e26 : ax.eval (.tmp 26) = _ := hF 2 (det 26 _) (by decide) (.tail _ (.head _))
              have e27 : ax.eval (.tmp 27) = _ := hF 3 (det 27 _) (by decide) (.head _)
              have hX2 := HXX.out _ hR; have q0 := hX2.cell 0; have q1 := hX2.cell 1; have p0 := HP.out _ hR; have p1 := HQ.out _ hR
              refine ⟨e26, ?_⟩
              simp [go_sem, BigFrame.eval_const, BigFrame.eval_global, BigFrame.eval_func, ↓IntWalk.iteOmega, ev e26, ev e27, hsub, hsub2, dk, dkn, q0, q1, p0, p1]
              with_reducible rfl
            apply Build.detg 29 Ext.refl (by rfl) (by rfl) rfl rfl
            case h =>   -- 5: t29 := Op.move (tmp 8)
              intro ax wx hE hR hF
              have e8 : ax.eval (.tmp 8) = .int .i64 (((p + 1 : Nat) : Int)) := hE.eval 8 (by rfl) rfl
              have e26 : ax.eval (.tmp 26) = _ := hF 2 (det 26 _) (by decide) (.tail _ (.tail _ (.head _)))
              refine ⟨e26, ?_⟩
              simp [go_sem, BigFrame.eval_const, BigFrame.eval_global, BigFrame.eval_func, ↓IntWalk.iteOmega, ev e8, ev e26, hsub, hsub2, dk, dkn]
              with_reducible rfl
            apply Build.detg 30 Ext.refl (by rfl) (by rfl) rfl rfl
            case h =>   -- 6: t30 := Op.binOp BinOp.sub 3 (tmp 29) (const (Value.int IntKind.i64 1)) 3
              intro ax wx hE hR hF
              have e26 : ax.eval (.tmp 26) = _ := hF 2 (det 26 _) (by decide) (.tail _ (.tail _ (.tail _ (.head _))))
              have e29 : ax.eval (.tmp 29) = _ := hF 5 (det 29 _) (by decide) (.head _)
              refine ⟨e26, ?_⟩
              simp [go_sem, BigFrame.eval_const, BigFrame.eval_global, BigFrame.eval_func, ↓IntWalk.iteOmega, ev e26, ev e29, hsub, hsub2, dk, dkn]
              with_reducible rfl
            apply Build.detg 31 Ext.refl (by rfl) (by rfl) rfl rfl
            case h =>   -- 7: t31 := Op.indexAddr 58 (tmp 28) (tmp 30)
              intro ax wx hE hR hF
              have e26 : ax.eval (.tmp 26) = _ := hF 2 (det 26 _) (by decide) (.tail _ (.tail _ (.tail _ (.tail _ (.head _)))))
              have e28 : ax.eval (.tmp 28) = _ := hF 4 (det 28 _) (by decide) (.tail _ (.tail _ (.head _)))
              have e30 : ax.eval (.tmp 30) = _ := hF 6 (det 30 _) (by decide) (.head _)
              refine ⟨e26, ?_⟩
              simp [go_sem, BigFrame.eval_const, BigFrame.eval_global, BigFrame.eval_func, ↓IntWalk.iteOmega, ev e26, ev e28, ev e30, hsub, hsub2, dk, dkn]
              with_reducible rfl
            apply Build.detg 32 Ext.refl (by rfl) (by rfl) rfl rfl
            case h =>   -- 8: t32 := Op.fieldAddr 72 (tmp 31) 0
              intro ax wx hE hR hF
              have e26 : ax.eval (.tmp 26) = _ := hF 2 (det 26 _) (by decide) (.tail _ (.tail _ (.tail _ (.tail _ (.tail _ (.head _))))))
              have e31 : ax.eval (.tmp 31) = _ := hF 7 (det 31 _) (by decide) (.head _)
              refine ⟨e26, ?_⟩
              simp [go_sem, BigFrame.eval_const, BigFrame.eval_global, BigFrame.eval_func, ↓IntWalk.iteOmega, ev e26, ev e31, hsub, hsub2, dk, dkn]
              with_reducible rfl
            apply Build.detg 33 Ext.refl (by rfl) (by rfl) rfl rfl
            case h =>   -- 9: t33 := Op.load 31 (tmp 32)
              intro ax wx hE hR hF
              have e26 : ax.eval (.tmp 26) = _ := hF 2 (det 26 _) (by decide) (.tail _ (.tail _ (.tail _ (.tail _ (.tail _ (.tail _ (.head _)))))))
              have e32 : ax.eval (.tmp 32) = _ := hF 8 (det 32 _) (by decide) (.head _)
              have hX2 := HXX.out _ hR; have q0 := hX2.cell 0; have q1 := hX2.cell 1; have p0 := HP.out _ hR; have p1 := HQ.out _ hR
              refine ⟨e26, ?_⟩
              simp [go_sem, BigFrame.eval_const, BigFrame.eval_global, BigFrame.eval_func, ↓IntWalk.iteOmega, ev e26, ev e32, hsub, hsub2, dk, dkn, q0, q1, p0, p1]
              with_reducible rfl
            apply Build.detg 34 Ext.refl (by rfl) (by rfl) rfl rfl
            case h =>   -- 10: t34 := Op.fieldAddr 60 (tmp 2) 1
              intro ax wx hE hR hF
              have e2 : ax.eval (.tmp 2) = .pointer (some ⟨w.heap.size, 0, none⟩) := hE.eval 2 (by rfl) rfl
              have e26 : ax.eval (.tmp 26) = _ := hF 2 (det 26 _) (by decide) (.tail _ (.tail _ (.tail _ (.tail _ (.tail _ (.tail _ (.tail _ (.head _))))))))
              refine ⟨e26, ?_⟩
              simp [go_sem, BigFrame.eval_const, BigFrame.eval_global, BigFrame.eval_func, ↓IntWalk.iteOmega, ev e2, ev e26, hsub, hsub2, dk, dkn]
              with_reducible rfl
            apply Build.detg 35 Ext.refl (by rfl) (by rfl) rfl rfl
            case h =>   -- 11: t35 := Op.load 58 (tmp 34)
              intro ax wx hE hR hF
              have e26 : ax.eval (.tmp 26) = _ := hF 2 (det 26 _) (by decide) (.tail _ (.tail _ (.tail _ (.tail _ (.tail _ (.tail _ (.tail _ (.tail _ (.head _)))))))))
              have e34 : ax.eval (.tmp 34) = _ := hF 10 (det 34 _) (by decide) (.head _)
              have hX2 := HXX.out _ hR; have q0 := hX2.cell 0; have q1 := hX2.cell 1; have p0 := HP.out _ hR; have p1 := HQ.out _ hR
              refine ⟨e26, ?_⟩
              simp [go_sem, BigFrame.eval_const, BigFrame.eval_global, BigFrame.eval_func, ↓IntWalk.iteOmega, ev e26, ev e34, hsub, hsub2, dk, dkn, q0, q1, p0, p1]
              with_reducible rfl
            apply Build.detg 36 Ext.refl (by rfl) (by rfl) rfl rfl
            case h =>   -- 12: t36 := Op.move (tmp 8)
              intro ax wx hE hR hF
              have e8 : ax.eval (.tmp 8) = .int .i64 (((p + 1 : Nat) : Int)) := hE.eval 8 (by rfl) rfl
              have e26 : ax.eval (.tmp 26) = _ := hF 2 (det 26 _) (by decide) (.tail _ (.tail _ (.tail _ (.tail _ (.tail _ (.tail _ (.tail _ (.tail _ (.tail _ (.head _))))))))))
              refine ⟨e26, ?_⟩
              simp [go_sem, BigFrame.eval_const, BigFrame.eval_global, BigFrame.eval_func, ↓IntWalk.iteOmega, ev e8, ev e26, hsub, hsub2, dk, dkn]
              with_reducible rfl
            apply Build.detg 37 Ext.refl (by rfl) (by rfl) rfl rfl
            case h =>   -- 13: t37 := Op.indexAddr 58 (tmp 35) (tmp 36)
              intro ax wx hE hR hF
              have e26 : ax.eval (.tmp 26) = _ := hF 2 (det 26 _) (by decide) (.tail _ (.tail _ (.tail _ (.tail _ (.tail _ (.tail _ (.tail _ (.tail _ (.tail _ (.tail _ (.head _)))))))))))
              have e35 : ax.eval (.tmp 35) = _ := hF 11 (det 35 _) (by decide) (.tail _ (.head _))
              have e36 : ax.eval (.tmp 36) = _ := hF 12 (det 36 _) (by decide) (.head _)
              refine ⟨e26, ?_⟩
              simp [go_sem, BigFrame.eval_const, BigFrame.eval_global, BigFrame.eval_func, ↓IntWalk.iteOmega, ev e26, ev e35, ev e36, hsub, hsub2, dk, dkn]
              with_reducible rfl
            apply Build.detg 38 Ext.refl (by rfl) (by rfl) rfl rfl
            case h =>   -- 14: t38 := Op.fieldAddr 72 (tmp 37) 0
              intro ax wx hE hR hF
              have e26 : ax.eval (.tmp 26) = _ := hF 2 (det 26 _) (by decide) (.tail _ (.tail _ (.tail _ (.tail _ (.tail _ (.tail _ (.tail _ (.tail _ (.tail _ (.tail _ (.tail _ (.head _))))))))))))
              have e37 : ax.eval (.tmp 37) = _ := hF 13 (det 37 _) (by decide) (.head _)
              refine ⟨e26, ?_⟩
              simp [go_sem, BigFrame.eval_const, BigFrame.eval_global, BigFrame.eval_func, ↓IntWalk.iteOmega, ev e26, ev e37, hsub, hsub2, dk, dkn]
              with_reducible rfl
            apply Build.detg 39 Ext.refl (by rfl) (by rfl) rfl rfl
            case h =>   -- 15: t39 := Op.load 31 (tmp 38)
              intro ax wx hE hR hF
              have e26 : ax.eval (.tmp 26) = _ := hF 2 (det 26 _) (by decide) (.tail _ (.tail _ (.tail _ (.tail _ (.tail _ (.tail _ (.tail _ (.tail _ (.tail _ (.tail _ (.tail _ (.tail _ (.head _)))))))))))))
              have e38 : ax.eval (.tmp 38) = _ := hF 14 (det 38 _) (by decide) (.head _)
              have hX2 := HXX.out _ hR; have q0 := hX2.cell 0; have q1 := hX2.cell 1; have p0 := HP.out _ hR; have p1 := HQ.out _ hR
              refine ⟨e26, ?_⟩
              simp [go_sem, BigFrame.eval_const, BigFrame.eval_global, BigFrame.eval_func, ↓IntWalk.iteOmega, ev e26, ev e38, hsub, hsub2, dk, dkn, q0, q1, p0, p1]
              with_reducible rfl
            apply Build.detg 40 Ext.refl (by rfl) (by rfl) rfl rfl
            case h =>   -- 16: t40 := Op.binOp BinOp.geq 31 (tmp 33) (tmp 39) 31
              intro ax wx hE hR hF
              have e26 : ax.eval (.tmp 26) = _ := hF 2 (det 26 _) (by decide) (.tail _ (.tail _ (.tail _ (.tail _ (.tail _ (.tail _ (.tail _ (.tail _ (.tail _ (.tail _ (.tail _ (.tail _ (.tail _ (.head _))))))))))))))
              have e33 : ax.eval (.tmp 33) = _ := hF 9 (det 33 _) (by decide) (.tail _ (.tail _ (.tail _ (.tail _ (.tail _ (.tail _ (.head _)))))))
              have e39 : ax.eval (.tmp 39) = _ := hF 15 (det 39 _) (by decide) (.head _)
              refine ⟨e26, ?_⟩
              simp [go_sem, BigFrame.eval_const, BigFrame.eval_global, BigFrame.eval_func, ↓IntWalk.iteOmega, ev e26, ev e33, ev e39, hsub, hsub2, dk, dkn]
              with_reducible rfl
            apply Build.det 41 Ext.refl (by rfl) (by rfl) rfl
            case h =>   -- 17: t41 := Op.pick (tmp 26) (tmp 40) (const (Value.bool false))
              intro ax wx hE hR hF
              have e26 : ax.eval (.tmp 26) = _ := hF 2 (det 26 _) (by decide) (.tail _ (.tail _ (.tail _ (.tail _ (.tail _ (.tail _ (.tail _ (.tail _ (.tail _ (.tail _ (.tail _ (.tail _ (.tail _ (.tail _ (.head _)))))))))))))))
              have e40 : ax.eval (.tmp 40) = _ := hF 16 (det 40 _) (by decide) (.head _)
              simp [go_sem, BigFrame.eval_const, BigFrame.eval_global, BigFrame.eval_func, ↓IntWalk.iteOmega, ev e26, ev e40, hsub, hsub2, dk, dkn]
              with_reducible rfl
            apply Build.stop
            refine ⟨by kernel_rfl, .inl ⟨rfl, ?_⟩⟩
            intro ax w2 hE R2 hF
            have e24 : ax.eval (.tmp 24) = _ := hF 0 (det 24 _) (.tail _ (.tail _ (.tail _ (.tail _ (.tail _ (.tail _ (.tail _ (.tail _ (.tail _ (.tail _ (.tail _ (.tail _ (.tail _ (.tail _ (.tail _ (.tail _ (.tail _ (.head _))))))))))))))))))
            have e25 : ax.eval (.tmp 25) = _ := hF 1 (det 25 _) (.tail _ (.tail _ (.tail _ (.tail _ (.tail _ (.tail _ (.tail _ (.tail _ (.tail _ (.tail _ (.tail _ (.tail _ (.tail _ (.tail _ (.tail _ (.tail _ (.head _)))))))))))))))))
            have e26 : ax.eval (.tmp 26) = _ := hF 2 (det 26 _) (.tail _ (.tail _ (.tail _ (.tail _ (.tail _ (.tail _ (.tail _ (.tail _ (.tail _ (.tail _ (.tail _ (.tail _ (.tail _ (.tail _ (.tail _ (.head _))))))))))))))))
            have e27 : ax.eval (.tmp 27) = _ := hF 3 (det 27 _) (.tail _ (.tail _ (.tail _ (.tail _ (.tail _ (.tail _ (.tail _ (.tail _ (.tail _ (.tail _ (.tail _ (.tail _ (.tail _ (.tail _ (.head _)))))))))))))))
            have e28 : ax.eval (.tmp 28) = _ := hF 4 (det 28 _) (.tail _ (.tail _ (.tail _ (.tail _ (.tail _ (.tail _ (.tail _ (.tail _ (.tail _ (.tail _ (.tail _ (.tail _ (.tail _ (.head _))))))))))))))
            have e29 : ax.eval (.tmp 29) = _ := hF 5 (det 29 _) (.tail _ (.tail _ (.tail _ (.tail _ (.tail _ (.tail _ (.tail _ (.tail _ (.tail _ (.tail _ (.tail _ (.tail _ (.head _)))))))))))))
            have e30 : ax.eval (.tmp 30) = _ := hF 6 (det 30 _) (.tail _ (.tail _ (.tail _ (.tail _ (.tail _ (.tail _ (.tail _ (.tail _ (.tail _ (.tail _ (.tail _ (.head _))))))))))))
            have e31 : ax.eval (.tmp 31) = _ := hF 7 (det 31 _) (.tail _ (.tail _ (.tail _ (.tail _ (.tail _ (.tail _ (.tail _ (.tail _ (.tail _ (.tail _ (.head _)))))))))))
            have e32 : ax.eval (.tmp 32) = _ := hF 8 (det 32 _) (.tail _ (.tail _ (.tail _ (.tail _ (.tail _ (.tail _ (.tail _ (.tail _ (.tail _ (.head _))))))))))
            have e33 : ax.eval (.tmp 33) = _ := hF 9 (det 33 _) (.tail _ (.tail _ (.tail _ (.tail _ (.tail _ (.tail _ (.tail _ (.tail _ (.head _)))))))))
            have e34 : ax.eval (.tmp 34) = _ := hF 10 (det 34 _) (.tail _ (.tail _ (.tail _ (.tail _ (.tail _ (.tail _ (.tail _ (.head _))))))))
            have e35 : ax.eval (.tmp 35) = _ := hF 11 (det 35 _) (.tail _ (.tail _ (.tail _ (.tail _ (.tail _ (.tail _ (.head _)))))))
            have e36 : ax.eval (.tmp 36) = _ := hF 12 (det 36 _) (.tail _ (.tail _ (.tail _ (.tail _ (.tail _ (.head _))))))
            have e37 : ax.eval (.tmp 37) = _ := hF 13 (det 37 _) (.tail _ (.tail _ (.tail _ (.tail _ (.head _)))))
            have e38 : ax.eval (.tmp 38) = _ := hF 14 (det 38 _) (.tail _ (.tail _ (.tail _ (.head _))))
            have e39 : ax.eval (.tmp 39) = _ := hF 15 (det 39 _) (.tail _ (.tail _ (.head _)))
            have e40 : ax.eval (.tmp 40) = _ := hF 16 (det 40 _) (.tail _ (.head _))
            have e41 : ax.eval (.tmp 41) = _ := hF 17 (det 41 _) (.head _)
            rw [AllEq.frame (D := [24, 25, 26, 27, 28, 29, 30, 31, 32, 33, 34, 35, 36, 37, 38, 39, 40, 41]) (AllEq.cons e24 (AllEq.cons e25 (AllEq.cons e26 (AllEq.cons e27 (AllEq.cons e28 (AllEq.cons e29 (AllEq.cons e30 (AllEq.cons e31 (AllEq.cons e32 (AllEq.cons e33 (AllEq.cons e34 (AllEq.cons e35 (AllEq.cons e36 (AllEq.cons e37 (AllEq.cons e38 (AllEq.cons e39 (AllEq.cons e40 (AllEq.cons e41 (AllEq.nil))))))))))))))))))) hE rfl]
            clear hF hE e24 e25 e26 e27 e28 e29 e30 e31 e32 e33 e34 e35 e36 e37 e38 e39 e40 e41
            simp only [List.foldl_cons, List.foldl_nil, Act.put, List.setIfInBounds_toArray, List.set_cons_succ, List.set_cons_zero]
            have hX2 := HXX.out _ R2
            have hEx := hEx.trans R2
            clear q0 q1
            have q0 := hX2.cell 0
            have q1 := hX2.cell 1
            have p1 := HQ.out _ R2
            clear hX2 R2 hsub hsub2
            cases S
            · rcases Nat.lt_trichotomy K key with hc | hc | hc
              ·
                have d1 : decide (K < key) = true := by rw [decide_eq_true_iff]; omega
                have d1i : decide ((K : Int) < (key : Int)) = true := by rw [decide_eq_true_iff]; omega
                have d2 : decide (K ≤ key) = true := by rw [decide_eq_true_iff]; omega
                have d2i : decide ((K : Int) ≤ (key : Int)) = true := by rw [decide_eq_true_iff]; omega
                have d3 : ((K : Int) == (key : Int)) = false := by rw [beq_eq_false_iff_ne]; omega
                have d3n : (K == key) = false := by rw [beq_eq_false_iff_ne]; omega
                have hb2 : Hid (belowN xs key ((p + 1) + 1) = b + 1) := by show _ + _ = _; rw [HB.out, if_pos (show keyAt xs (p + 1) < key by have := HK.out; omega)] <;> rfl
                have hu2 : Hid (uptoN xs key ((p + 1) + 1) = u + 1) := by show _ + _ = _; rw [HU.out, if_pos (show keyAt xs (p + 1) ≤ key by have := HK.out; omega)] <;> rfl
                have hs2 : Hid (isN xs key ((p + 1) + 1) = false) := by show (_ || _) = _; rw [HS.out]; rw [decide_eq_false (show ¬ keyAt xs (p + 1) = key by have := HK.out; omega)]; rfl
                clear HB HU HS
                go_wp2_with fail
                go_roundw
                case rel => exact ⟨(p + 1) + 1, by rw [hb2.out] <;> go_num, by rw [hu2.out] <;> go_num, by rw [hs2.out] <;> rfl, by go_num, by omega, hEx, HJ2⟩
                case measure => simp [intOf]; omega
              ·
                have d1 : decide (K < key) = false := by rw [decide_eq_false_iff_not]; omega
                have d1i : decide ((K : Int) < (key : Int)) = false := by rw [decide_eq_false_iff_not]; omega
                have d2 : decide (K ≤ key) = true := by rw [decide_eq_true_iff]; omega
                have d2i : decide ((K : Int) ≤ (key : Int)) = true := by rw [decide_eq_true_iff]; omega
                have d3 : ((K : Int) == (key : Int)) = true := by simp; omega
                have d3n : (K == key) = true := by simp; omega
                have hb2 : Hid (belowN xs key ((p + 1) + 1) = b) := by show _ + _ = _; rw [HB.out, if_neg (show ¬ keyAt xs (p + 1) < key by have := HK.out; omega)] <;> rfl
                have hu2 : Hid (uptoN xs key ((p + 1) + 1) = u + 1) := by show _ + _ = _; rw [HU.out, if_pos (show keyAt xs (p + 1) ≤ key by have := HK.out; omega)] <;> rfl
                have hs2 : Hid (isN xs key ((p + 1) + 1) = true) := by show (_ || _) = _; rw [HS.out]; rw [decide_eq_true (show keyAt xs (p + 1) = key by have := HK.out; omega)]; rfl
                clear HB HU HS
                go_wp2_with fail
                go_roundw
                case rel => exact ⟨(p + 1) + 1, by rw [hb2.out] <;> go_num, by rw [hu2.out] <;> go_num, by rw [hs2.out] <;> rfl, by go_num, by omega, hEx, HJ2⟩
                case measure => simp [intOf]; omega
              ·
                have d1 : decide (K < key) = false := by rw [decide_eq_false_iff_not]; omega
                have d1i : decide ((K : Int) < (key : Int)) = false := by rw [decide_eq_false_iff_not]; omega
                have d2 : decide (K ≤ key) = false := by rw [decide_eq_false_iff_not]; omega
                have d2i : decide ((K : Int) ≤ (key : Int)) = false := by rw [decide_eq_false_iff_not]; omega
                have d3 : ((K : Int) == (key : Int)) = false := by rw [beq_eq_false_iff_ne]; omega
                have d3n : (K == key) = false := by rw [beq_eq_false_iff_ne]; omega
                have hb2 : Hid (belowN xs key ((p + 1) + 1) = b) := by show _ + _ = _; rw [HB.out, if_neg (show ¬ keyAt xs (p + 1) < key by have := HK.out; omega)] <;> rfl
                have hu2 : Hid (uptoN xs key ((p + 1) + 1) = u) := by show _ + _ = _; rw [HU.out, if_neg (show ¬ keyAt xs (p + 1) ≤ key by have := HK.out; omega)] <;> rfl
                have hs2 : Hid (isN xs key ((p + 1) + 1) = false) := by show (_ || _) = _; rw [HS.out]; rw [decide_eq_false (show ¬ keyAt xs (p + 1) = key by have := HK.out; omega)]; rfl
                clear HB HU HS
                go_wp2_with fail
                go_roundw
                case rel => exact ⟨(p + 1) + 1, by rw [hb2.out] <;> go_num, by rw [hu2.out] <;> go_num, by rw [hs2.out] <;> rfl, by go_num, by omega, hEx, HJ2⟩
                case measure => simp [intOf]; omega
            · rcases Nat.lt_trichotomy K key with hc | hc | hc
              ·
                have d1 : decide (K < key) = true := by rw [decide_eq_true_iff]; omega
                have d1i : decide ((K : Int) < (key : Int)) = true := by rw [decide_eq_true_iff]; omega
                have d2 : decide (K ≤ key) = true := by rw [decide_eq_true_iff]; omega
                have d2i : decide ((K : Int) ≤ (key : Int)) = true := by rw [decide_eq_true_iff]; omega
                have d3 : ((K : Int) == (key : Int)) = false := by rw [beq_eq_false_iff_ne]; omega
                have d3n : (K == key) = false := by rw [beq_eq_false_iff_ne]; omega
                have hb2 : Hid (belowN xs key ((p + 1) + 1) = b + 1) := by show _ + _ = _; rw [HB.out, if_pos (show keyAt xs (p + 1) < key by have := HK.out; omega)] <;> rfl
                have hu2 : Hid (uptoN xs key ((p + 1) + 1) = u + 1) := by show _ + _ = _; rw [HU.out, if_pos (show keyAt xs (p + 1) ≤ key by have := HK.out; omega)] <;> rfl
                have hs2 : Hid (isN xs key ((p + 1) + 1) = true) := by show (_ || _) = _; rw [HS.out]; rfl
                clear HB HU HS
                go_wp2_with fail
                go_roundw
                case rel => exact ⟨(p + 1) + 1, by rw [hb2.out] <;> go_num, by rw [hu2.out] <;> go_num, by rw [hs2.out] <;> rfl, by go_num, by omega, hEx, HJ2⟩
                case measure => simp [intOf]; omega
              ·
                have d1 : decide (K < key) = false := by rw [decide_eq_false_iff_not]; omega
                have d1i : decide ((K : Int) < (key : Int)) = false := by rw [decide_eq_false_iff_not]; omega
                have d2 : decide (K ≤ key) = true := by rw [decide_eq_true_iff]; omega
                have d2i : decide ((K : Int) ≤ (key : Int)) = true := by rw [decide_eq_true_iff]; omega
                have d3 : ((K : Int) == (key : Int)) = true := by simp; omega
                have d3n : (K == key) = true := by simp; omega
                have hb2 : Hid (belowN xs key ((p + 1) + 1) = b) := by show _ + _ = _; rw [HB.out, if_neg (show ¬ keyAt xs (p + 1) < key by have := HK.out; omega)] <;> rfl
                have hu2 : Hid (uptoN xs key ((p + 1) + 1) = u + 1) := by show _ + _ = _; rw [HU.out, if_pos (show keyAt xs (p + 1) ≤ key by have := HK.out; omega)] <;> rfl
                have hs2 : Hid (isN xs key ((p + 1) + 1) = true) := by show (_ || _) = _; rw [HS.out]; rfl
                clear HB HU HS
                go_wp2_with fail
                go_roundw
                case rel => exact ⟨(p + 1) + 1, by rw [hb2.out] <;> go_num, by rw [hu2.out] <;> go_num, by rw [hs2.out] <;> rfl, by go_num, by omega, hEx, HJ2⟩
                case measure => simp [intOf]; omega
              ·
                have d1 : decide (K < key) = false := by rw [decide_eq_false_iff_not]; omega
                have d1i : decide ((K : Int) < (key : Int)) = false := by rw [decide_eq_false_iff_not]; omega
                have d2 : decide (K ≤ key) = false := by rw [decide_eq_false_iff_not]; omega
                have d2i : decide ((K : Int) ≤ (key : Int)) = false := by rw [decide_eq_false_iff_not]; omega
                have d3 : ((K : Int) == (key : Int)) = false := by rw [beq_eq_false_iff_ne]; omega
                have d3n : (K == key) = false := by rw [beq_eq_false_iff_ne]; omega
                have hb2 : Hid (belowN xs key ((p + 1) + 1) = b) := by show _ + _ = _; rw [HB.out, if_neg (show ¬ keyAt xs (p + 1) < key by have := HK.out; omega)] <;> rfl
                have hu2 : Hid (uptoN xs key ((p + 1) + 1) = u) := by show _ + _ = _; rw [HU.out, if_neg (show ¬ keyAt xs (p + 1) ≤ key by have := HK.out; omega)] <;> rfl
                have hs2 : Hid (isN xs key ((p + 1) + 1) = true) := by show (_ || _) = _; rw [HS.out]; rfl
                clear HB HU HS
                go_wp2_with fail
                go_roundw
                case rel => exact ⟨(p + 1) + 1, by rw [hb2.out] <;> go_num, by rw [hu2.out] <;> go_num, by rw [hs2.out] <;> rfl, by go_num, by omega, hEx, HJ2⟩
                case measure => simp [intOf]; omega
          · have dk : decide ((K : Int) ≤ (K0 : Int)) = true := by rw [decide_eq_true_iff]; omega
            have dkn : decide (K ≤ K0) = true := by rw [decide_eq_true_iff]; omega
            go_upto_region 11 with fail
            refine wp_typed (R := Ext) (w0 := wr) [[], [0], [0, 1], [0, 1, 2], [0, 1, 2, 3], [0, 1, 2], [0, 1, 2, 5], [0, 1, 2, 3, 4, 5, 6], [0, 1, 2, 3, 4, 5, 6, 7], [0, 1, 2, 3, 4, 5, 6, 7, 8], [0, 1, 2], [0, 1, 2, 10], [0, 1, 2], [0, 1, 2, 10, 11, 12], [0, 1, 2, 10, 11, 12, 13], [0, 1, 2, 10, 11, 12, 13, 14], [0, 1, 2, 3, 4, 5, 6, 7, 8, 9, 10, 11, 12, 13, 14, 15], [0, 1, 2, 3, 4, 5, 6, 7, 8, 9, 10, 11, 12, 13, 14, 15, 16]] [24, 25, 26, 27, 28, 29, 30, 31, 32, 33, 34, 35, 36, 37, 38, 39, 40, 41] Ext.refl (fun _ _ _ => Ext.trans) (Ext.drew _) (by kernel_rfl) ?_
            apply Build.det 24 Ext.refl (by rfl) (by rfl) rfl
            case h =>   -- 0: t24 := Op.move (tmp 8)
              intro ax wx hE hR hF
              have e8 : ax.eval (.tmp 8) = .int .i64 (((p + 1 : Nat) : Int)) := hE.eval 8 (by rfl) rfl
              simp [go_sem, BigFrame.eval_const, BigFrame.eval_global, BigFrame.eval_func, ↓IntWalk.iteOmega, ev e8, hsub, hsub2, dk, dkn]
              with_reducible rfl
            apply Build.det 25 Ext.refl (by rfl) (by rfl) rfl
            case h =>   -- 1: t25 := Op.binOp BinOp.gtr 3 (tmp 24) (const (Value.int IntKind.i64 0)) 3
              intro ax wx hE hR hF
              have e24 : ax.eval (.tmp 24) = _ := hF 0 (det 24 _) (by decide) (.head _)
              simp [go_sem, BigFrame.eval_const, BigFrame.eval_global, BigFrame.eval_func, ↓IntWalk.iteOmega, ev e24, hsub, hsub2, dk, dkn]
              with_reducible rfl
            apply Build.det 26 Ext.refl (by rfl) (by rfl) rfl
            case h =>   -- 2: t26 := Op.move (tmp 25)
              intro ax wx hE hR hF
              have e25 : ax.eval (.tmp 25) = _ := hF 1 (det 25 _) (by decide) (.head _)
              simp [go_sem, BigFrame.eval_const, BigFrame.eval_global, BigFrame.eval_func, ↓IntWalk.iteOmega, ev e25, hsub, hsub2, dk, dkn]
              with_reducible rfl
            apply Build.detg 27 Ext.refl (by rfl) (by rfl) rfl rfl
            case h =>   -- 3: t27 := Op.fieldAddr 60 (tmp 2) 1
              intro ax wx hE hR hF
              have e2 : ax.eval (.tmp 2) = .pointer (some ⟨w.heap.size, 0, none⟩) := hE.eval 2 (by rfl) rfl
              have e26 : ax.eval (.tmp 26) = _ := hF 2 (det 26 _) (by decide) (.head _)
              refine ⟨e26, ?_⟩
              simp [go_sem, BigFrame.eval_const, BigFrame.eval_global, BigFrame.eval_func, ↓IntWalk.iteOmega, ev e2, ev e26, hsub, hsub2, dk, dkn]
              with_reducible rfl
            apply Build.detg 28 Ext.refl (by rfl) (by rfl) rfl rfl
            case h =>   -- 4: t28 := Op.load 58 (tmp 27)
              intro ax wx hE hR hF
              have e26 : ax.eval (.tmp 26) = _ := hF 2 (det 26 _) (by decide) (.tail _ (.head _))
              have e27 : ax.eval (.tmp 27) = _ := hF 3 (det 27 _) (by decide) (.head _)
              have hX2 := HXX.out _ hR; have q0 := hX2.cell 0; have q1 := hX2.cell 1; have p0 := HP.out _ hR; have p1 := HQ.out _ hR
              refine ⟨e26, ?_⟩
              simp [go_sem, BigFrame.eval_const, BigFrame.eval_global, BigFrame.eval_func, ↓IntWalk.iteOmega, ev e26, ev e27, hsub, hsub2, dk, dkn, q0, q1, p0, p1]
              with_reducible rfl
            apply Build.detg 29 Ext.refl (by rfl) (by rfl) rfl rfl
            case h =>   -- 5: t29 := Op.move (tmp 8)
              intro ax wx hE hR hF
              have e8 : ax.eval (.tmp 8) = .int .i64 (((p + 1 : Nat) : Int)) := hE.eval 8 (by rfl) rfl
              have e26 : ax.eval (.tmp 26) = _ := hF 2 (det 26 _) (by decide) (.tail _ (.tail _ (.head _)))
              refine ⟨e26, ?_⟩
              simp [go_sem, BigFrame.eval_const, BigFrame.eval_global, BigFrame.eval_func, ↓IntWalk.iteOmega, ev e8, ev e26, hsub, hsub2, dk, dkn]
              with_reducible rfl
            apply Build.detg 30 Ext.refl (by rfl) (by rfl) rfl rfl
            case h =>   -- 6: t30 := Op.binOp BinOp.sub 3 (tmp 29) (const (Value.int IntKind.i64 1)) 3
              intro ax wx hE hR hF
              have e26 : ax.eval (.tmp 26) = _ := hF 2 (det 26 _) (by decide) (.tail _ (.tail _ (.tail _ (.head _))))
              have e29 : ax.eval (.tmp 29) = _ := hF 5 (det 29 _) (by decide) (.head _)
              refine ⟨e26, ?_⟩
              simp [go_sem, BigFrame.eval_const, BigFrame.eval_global, BigFrame.eval_func, ↓IntWalk.iteOmega, ev e26, ev e29, hsub, hsub2, dk, dkn]
              with_reducible rfl
            apply Build.detg 31 Ext.refl (by rfl) (by rfl) rfl rfl
            case h =>   -- 7: t31 := Op.indexAddr 58 (tmp 28) (tmp 30)
              intro ax wx hE hR hF
              have e26 : ax.eval (.tmp 26) = _ := hF 2 (det 26 _) (by decide) (.tail _ (.tail _ (.tail _ (.tail _ (.head _)))))
              have e28 : ax.eval (.tmp 28) = _ := hF 4 (det 28 _) (by decide) (.tail _ (.tail _ (.head _)))
              have e30 : ax.eval (.tmp 30) = _ := hF 6 (det 30 _) (by decide) (.head _)
              refine ⟨e26, ?_⟩
              simp [go_sem, BigFrame.eval_const, BigFrame.eval_global, BigFrame.eval_func, ↓IntWalk.iteOmega, ev e26, ev e28, ev e30, hsub, hsub2, dk, dkn]
              with_reducible rfl
            apply Build.detg 32 Ext.refl (by rfl) (by rfl) rfl rfl
            case h =>   -- 8: t32 := Op.fieldAddr 72 (tmp 31) 0
              intro ax wx hE hR hF
              have e26 : ax.eval (.tmp 26) = _ := hF 2 (det 26 _) (by decide) (.tail _ (.tail _ (.tail _ (.tail _ (.tail _ (.head _))))))
              have e31 : ax.eval (.tmp 31) = _ := hF 7 (det 31 _) (by decide) (.head _)
              refine ⟨e26, ?_⟩
              simp [go_sem, BigFrame.eval_const, BigFrame.eval_global, BigFrame.eval_func, ↓IntWalk.iteOmega, ev e26, ev e31, hsub, hsub2, dk, dkn]
              with_reducible rfl
            apply Build.detg 33 Ext.refl (by rfl) (by rfl) rfl rfl
            case h =>   -- 9: t33 := Op.load 31 (tmp 32)
              intro ax wx hE hR hF
              have e26 : ax.eval (.tmp 26) = _ := hF 2 (det 26 _) (by decide) (.tail _ (.tail _ (.tail _ (.tail _ (.tail _ (.tail _ (.head _)))))))
              have e32 : ax.eval (.tmp 32) = _ := hF 8 (det 32 _) (by decide) (.head _)
              have hX2 := HXX.out _ hR; have q0 := hX2.cell 0; have q1 := hX2.cell 1; have p0 := HP.out _ hR; have p1 := HQ.out _ hR
              refine ⟨e26, ?_⟩
              simp [go_sem, BigFrame.eval_const, BigFrame.eval_global, BigFrame.eval_func, ↓IntWalk.iteOmega, ev e26, ev e32, hsub, hsub2, dk, dkn, q0, q1, p0, p1]
              with_reducible rfl
            apply Build.detg 34 Ext.refl (by rfl) (by rfl) rfl rfl
            case h =>   -- 10: t34 := Op.fieldAddr 60 (tmp 2) 1
              intro ax wx hE hR hF
              have e2 : ax.eval (.tmp 2) = .pointer (some ⟨w.heap.size, 0, none⟩) := hE.eval 2 (by rfl) rfl
              have e26 : ax.eval (.tmp 26) = _ := hF 2 (det 26 _) (by decide) (.tail _ (.tail _ (.tail _ (.tail _ (.tail _ (.tail _ (.tail _ (.head _))))))))
              refine ⟨e26, ?_⟩
              simp [go_sem, BigFrame.eval_const, BigFrame.eval_global, BigFrame.eval_func, ↓IntWalk.iteOmega, ev e2, ev e26, hsub, hsub2, dk, dkn]
              with_reducible rfl
            apply Build.detg 35 Ext.refl (by rfl) (by rfl) rfl rfl
            case h =>   -- 11: t35 := Op.load 58 (tmp 34)
              intro ax wx hE hR hF
              have e26 : ax.eval (.tmp 26) = _ := hF 2 (det 26 _) (by decide) (.tail _ (.tail _ (.tail _ (.tail _ (.tail _ (.tail _ (.tail _ (.tail _ (.head _)))))))))
              have e34 : ax.eval (.tmp 34) = _ := hF 10 (det 34 _) (by decide) (.head _)
              have hX2 := HXX.out _ hR; have q0 := hX2.cell 0; have q1 := hX2.cell 1; have p0 := HP.out _ hR; have p1 := HQ.out _ hR
              refine ⟨e26, ?_⟩
              simp [go_sem, BigFrame.eval_const, BigFrame.eval_global, BigFrame.eval_func, ↓IntWalk.iteOmega, ev e26, ev e34, hsub, hsub2, dk, dkn, q0, q1, p0, p1]
              with_reducible rfl
            apply Build.detg 36 Ext.refl (by rfl) (by rfl) rfl rfl
            case h =>   -- 12: t36 := Op.move (tmp 8)
              intro ax wx hE hR hF
              have e8 : ax.eval (.tmp 8) = .int .i64 (((p + 1 : Nat) : Int)) := hE.eval 8 (by rfl) rfl
              have e26 : ax.eval (.tmp 26) = _ := hF 2 (det 26 _) (by decide) (.tail _ (.tail _ (.tail _ (.tail _ (.tail _ (.tail _ (.tail _ (.tail _ (.tail _ (.head _))))))))))
              refine ⟨e26, ?_⟩
              simp [go_sem, BigFrame.eval_const, BigFrame.eval_global, BigFrame.eval_func, ↓IntWalk.iteOmega, ev e8, ev e26, hsub, hsub2, dk, dkn]
              with_reducible rfl
            apply Build.detg 37 Ext.refl (by rfl) (by rfl) rfl rfl
            case h =>   -- 13: t37 := Op.indexAddr 58 (tmp 35) (tmp 36)
              intro ax wx hE hR hF
              have e26 : ax.eval (.tmp 26) = _ := hF 2 (det 26 _) (by decide) (.tail _ (.tail _ (.tail _ (.tail _ (.tail _ (.tail _ (.tail _ (.tail _ (.tail _ (.tail _ (.head _)))))))))))
              have e35 : ax.eval (.tmp 35) = _ := hF 11 (det 35 _) (by decide) (.tail _ (.head _))
              have e36 : ax.eval (.tmp 36) = _ := hF 12 (det 36 _) (by decide) (.head _)
              refine ⟨e26, ?_⟩
              simp [go_sem, BigFrame.eval_const, BigFrame.eval_global, BigFrame.eval_func, ↓IntWalk.iteOmega, ev e26, ev e35, ev e36, hsub, hsub2, dk, dkn]
              with_reducible rfl
            apply Build.detg 38 Ext.refl (by rfl) (by rfl) rfl rfl
            case h =>   -- 14: t38 := Op.fieldAddr 72 (tmp 37) 0
              intro ax wx hE hR hF
              have e26 : ax.eval (.tmp 26) = _ := hF 2 (det 26 _) (by decide) (.tail _ (.tail _ (.tail _ (.tail _ (.tail _ (.tail _ (.tail _ (.tail _ (.tail _ (.tail _ (.tail _ (.head _))))))))))))
              have e37 : ax.eval (.tmp 37) = _ := hF 13 (det 37 _) (by decide) (.head _)
              refine ⟨e26, ?_⟩
              simp [go_sem, BigFrame.eval_const, BigFrame.eval_global, BigFrame.eval_func, ↓IntWalk.iteOmega, ev e26, ev e37, hsub, hsub2, dk, dkn]
              with_reducible rfl
            apply Build.detg 39 Ext.refl (by rfl) (by rfl) rfl rfl
            case h =>   -- 15: t39 := Op.load 31 (tmp 38)
              intro ax wx hE hR hF
              have e26 : ax.eval (.tmp 26) = _ := hF 2 (det 26 _) (by decide) (.tail _ (.tail _ (.tail _ (.tail _ (.tail _ (.tail _ (.tail _ (.tail _ (.tail _ (.tail _ (.tail _ (.tail _ (.head _)))))))))))))
              have e38 : ax.eval (.tmp 38) = _ := hF 14 (det 38 _) (by decide) (.head _)
              have hX2 := HXX.out _ hR; have q0 := hX2.cell 0; have q1 := hX2.cell 1; have p0 := HP.out _ hR; have p1 := HQ.out _ hR
              refine ⟨e26, ?_⟩
              simp [go_sem, BigFrame.eval_const, BigFrame.eval_global, BigFrame.eval_func, ↓IntWalk.iteOmega, ev e26, ev e38, hsub, hsub2, dk, dkn, q0, q1, p0, p1]
              with_reducible rfl
            apply Build.detg 40 Ext.refl (by rfl) (by rfl) rfl rfl
            case h =>   -- 16: t40 := Op.binOp BinOp.geq 31 (tmp 33) (tmp 39) 31
              intro ax wx hE hR hF
              have e26 : ax.eval (.tmp 26) = _ := hF 2 (det 26 _) (by decide) (.tail _ (.tail _ (.tail _ (.tail _ (.tail _ (.tail _ (.tail _ (.tail _ (.tail _ (.tail _ (.tail _ (.tail _ (.tail _ (.head _))))))))))))))
              have e33 : ax.eval (.tmp 33) = _ := hF 9 (det 33 _) (by decide) (.tail _ (.tail _ (.tail _ (.tail _ (.tail _ (.tail _ (.head _)))))))
              have e39 : ax.eval (.tmp 39) = _ := hF 15 (det 39 _) (by decide) (.head _)
              refine ⟨e26, ?_⟩
              simp [go_sem, BigFrame.eval_const, BigFrame.eval_global, BigFrame.eval_func, ↓IntWalk.iteOmega, ev e26, ev e33, ev e39, hsub, hsub2, dk, dkn]
              with_reducible rfl
            apply Build.det 41 Ext.refl (by rfl) (by rfl) rfl
            case h =>   -- 17: t41 := Op.pick (tmp 26) (tmp 40) (const (Value.bool false))
              intro ax wx hE hR hF
              have e26 : ax.eval (.tmp 26) = _ := hF 2 (det 26 _) (by decide) (.tail _ (.tail _ (.tail _ (.tail _ (.tail _ (.tail _ (.tail _ (.tail _ (.tail _ (.tail _ (.tail _ (.tail _ (.tail _ (.tail _ (.head _)))))))))))))))
              have e40 : ax.eval (.tmp 40) = _ := hF 16 (det 40 _) (by decide) (.head _)
              simp [go_sem, BigFrame.eval_const, BigFrame.eval_global, BigFrame.eval_func, ↓IntWalk.iteOmega, ev e26, ev e40, hsub, hsub2, dk, dkn]
              with_reducible rfl
            apply Build.stop
            refine ⟨by kernel_rfl, .inl ⟨rfl, ?_⟩⟩
            intro ax w2 hE R2 hF
            have e24 : ax.eval (.tmp 24) = _ := hF 0 (det 24 _) (.tail _ (.tail _ (.tail _ (.tail _ (.tail _ (.tail _ (.tail _ (.tail _ (.tail _ (.tail _ (.tail _ (.tail _ (.tail _ (.tail _ (.tail _ (.tail _ (.tail _ (.head _))))))))))))))))))
            have e25 : ax.eval (.tmp 25) = _ := hF 1 (det 25 _) (.tail _ (.tail _ (.tail _ (.tail _ (.tail _ (.tail _ (.tail _ (.tail _ (.tail _ (.tail _ (.tail _ (.tail _ (.tail _ (.tail _ (.tail _ (.tail _ (.head _)))))))))))))))))
            have e26 : ax.eval (.tmp 26) = _ := hF 2 (det 26 _) (.tail _ (.tail _ (.tail _ (.tail _ (.tail _ (.tail _ (.tail _ (.tail _ (.tail _ (.tail _ (.tail _ (.tail _ (.tail _ (.tail _ (.tail _ (.head _))))))))))))))))
            have e27 : ax.eval (.tmp 27) = _ := hF 3 (det 27 _) (.tail _ (.tail _ (.tail _ (.tail _ (.tail _ (.tail _ (.tail _ (.tail _ (.tail _ (.tail _ (.tail _ (.tail _ (.tail _ (.tail _ (.head _)))))))))))))))
            have e28 : ax.eval (.tmp 28) = _ := hF 4 (det 28 _) (.tail _ (.tail _ (.tail _ (.tail _ (.tail _ (.tail _ (.tail _ (.tail _ (.tail _ (.tail _ (.tail _ (.tail _ (.tail _ (.head _))))))))))))))
            have e29 : ax.eval (.tmp 29) = _ := hF 5 (det 29 _) (.tail _ (.tail _ (.tail _ (.tail _ (.tail _ (.tail _ (.tail _ (.tail _ (.tail _ (.tail _ (.tail _ (.tail _ (.head _)))))))))))))
            have e30 : ax.eval (.tmp 30) = _ := hF 6 (det 30 _) (.tail _ (.tail _ (.tail _ (.tail _ (.tail _ (.tail _ (.tail _ (.tail _ (.tail _ (.tail _ (.tail _ (.head _))))))))))))
            have e31 : ax.eval (.tmp 31) = _ := hF 7 (det 31 _) (.tail _ (.tail _ (.tail _ (.tail _ (.tail _ (.tail _ (.tail _ (.tail _ (.tail _ (.tail _ (.head _)))))))))))
            have e32 : ax.eval (.tmp 32) = _ := hF 8 (det 32 _) (.tail _ (.tail _ (.tail _ (.tail _ (.tail _ (.tail _ (.tail _ (.tail _ (.tail _ (.head _))))))))))
            have e33 : ax.eval (.tmp 33) = _ := hF 9 (det 33 _) (.tail _ (.tail _ (.tail _ (.tail _ (.tail _ (.tail _ (.tail _ (.tail _ (.head _)))))))))
            have e34 : ax.eval (.tmp 34) = _ := hF 10 (det 34 _) (.tail _ (.tail _ (.tail _ (.tail _ (.tail _ (.tail _ (.tail _ (.head _))))))))
            have e35 : ax.eval (.tmp 35) = _ := hF 11 (det 35 _) (.tail _ (.tail _ (.tail _ (.tail _ (.tail _ (.tail _ (.head _)))))))
            have e36 : ax.eval (.tmp 36) = _ := hF 12 (det 36 _) (.tail _ (.tail _ (.tail _ (.tail _ (.tail _ (.head _))))))
            have e37 : ax.eval (.tmp 37) = _ := hF 13 (det 37 _) (.tail _ (.tail _ (.tail _ (.tail _ (.head _)))))
            have e38 : ax.eval (.tmp 38) = _ := hF 14 (det 38 _) (.tail _ (.tail _ (.tail _ (.head _))))
            have e39 : ax.eval (.tmp 39) = _ := hF 15 (det 39 _) (.tail _ (.tail _ (.head _)))
            have e40 : ax.eval (.tmp 40) = _ := hF 16 (det 40 _) (.tail _ (.head _))
            have e41 : ax.eval (.tmp 41) = _ := hF 17 (det 41 _) (.head _)
            rw [AllEq.frame (D := [24, 25, 26, 27, 28, 29, 30, 31, 32, 33, 34, 35, 36, 37, 38, 39, 40, 41]) (AllEq.cons e24 (AllEq.cons e25 (AllEq.cons e26 (AllEq.cons e27 (AllEq.cons e28 (AllEq.cons e29 (AllEq.cons e30 (AllEq.cons e31 (AllEq.cons e32 (AllEq.cons e33 (AllEq.cons e34 (AllEq.cons e35 (AllEq.cons e36 (AllEq.cons e37 (AllEq.cons e38 (AllEq.cons e39 (AllEq.cons e40 (AllEq.cons e41 (AllEq.nil))))))))))))))))))) hE rfl]
            clear hF hE e24 e25 e26 e27 e28 e29 e30 e31 e32 e33 e34 e35 e36 e37 e38 e39 e40 e41
            simp only [List.foldl_cons, List.foldl_nil, Act.put, List.setIfInBounds_toArray, List.set_cons_succ, List.set_cons_zero]
            have hEx := hEx.trans R2
            go_wp2_with fail
            go_ret
            exact ⟨rfl, HR0.out.trans hEx⟩
      · obtain rfl : j = len := by omega
        have hrise : ∀ i, i + 1 < xs.length → keyAt xs i < keyAt xs (i + 1) := fun i hi => HJ.out i (by omega)
        have hrB : riseB xs = true := by unfold riseB; rw [decide_eq_true_iff]; exact fun i _ h => hrise i h
        obtain ⟨n, hp⟩ := place_of xs key hrB
        obtain ⟨c1, c2, c3⟩ := counts hrise hp j (by omega)
        have hpl := hp.le
        have hn : min j n = n := by omega
        rw [hn] at c1 c2
        have CF := Lib.hid (fun (W : World) (h : Ext wr W) => find_any lv A j cap xs W hlen (by omega) (hrow1.ext (hEx.trans h)) key n hp)
        have CC := Lib.hid (fun (W : World) (h : Ext wr W) => child_any lv A j cap xs W hlen (by omega) (hrow1.ext (hEx.trans h)) key n hp)
        rw [c1, c2, c3]
        have hn40 : n ≤ 40 := by omega
        by_cases hc : n < j ∧ keyAt xs n = key
        · rw [decide_eq_true hc] at CF ⊢
          rw [if_pos hc] at CC
          rw [if_pos hc]
          have hv : Hid (True) := trivial
          have hwu : IntKind.i64.wrap (((n + 1 : Nat) : Int) - 1) = (n : Int) := by rw [IntWalk.i64_in _ (by omega)]; omega
          clear hc c1 c2 c3 hp hrise hrB hpl hn
          go_wp2_with fail
          refine (CF.out _ (Ext.refl _)).mono ?_
          rintro e w2 ⟨rfl, R2⟩
          have hEx2 := hEx.trans R2
          clear q0 q1
          have q0 := (HX.out.ext hEx2).cell 0
          have q1 := (HX.out.ext hEx2).cell 1
          go_wp2_with fail
          refine (CC.out _ R2).mono ?_
          rintro e w3 ⟨rfl, R3⟩
          go_wp2_with fail
          go_ret
          exact ⟨rfl, HR0.out.trans (hEx2.trans R3)⟩
        · rw [decide_eq_false hc] at CF ⊢
          rw [if_neg hc] at CC
          rw [if_neg hc]
          rw [Nat.add_zero]
          have hwu : IntKind.i64.wrap ((n : Int) - 1) = (n : Int) - 1 := IntWalk.i64_in _ (by omega)
          clear hc c1 c2 c3 hp hrise hrB hpl hn
          go_wp2_with fail
          refine (CF.out _ (Ext.refl _)).mono ?_
          rintro e w2 ⟨rfl, R2⟩
          have hEx2 := hEx.trans R2
          clear q0 q1
          have q0 := (HX.out.ext hEx2).cell 0
          have q1 := (HX.out.ext hEx2).cell 1
          go_wp2_with fail
          refine (CC.out _ R2).mono ?_
          rintro e w3 ⟨rfl, R3⟩
          go_wp2_with fail
          go_ret
          exact ⟨rfl, HR0.out.trans (hEx2.trans R3)⟩
end Go.Proofs.YtencbdcfcpohaaaDoor
