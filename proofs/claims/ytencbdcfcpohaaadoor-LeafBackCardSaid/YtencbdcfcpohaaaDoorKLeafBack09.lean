/- leaf: pairs, rise. -/
import Derived.Test.YtencbdcfcpohaaaDoorKLeafBack08
namespace Go.Proofs.YtencbdcfcpohaaaDoor
set_option linter.unusedVariables false
set_option linter.unusedSimpArgs false
open Go.RowKit

def pairC (x : Nat × Nat) : List Value := [.int .u64 x.1, .int .u64 x.2]
def keyAt (xs : List (Nat × Nat)) (i : Nat) : Nat := (xs.getD i (0, 0)).1
def riseB (xs : List (Nat × Nat)) : Bool := decide (∀ i, i < xs.length → i + 1 < xs.length → keyAt xs i < keyAt xs (i + 1))
theorem Row.pair_in {w w' : World} {A : Option Addr} {xs : List (Nat × Nat)} (h : Row w A 2 pairC xs) (hb : Below w.heap.size w w') {j : Nat} (hj : j < xs.length) :
    ∃ b o, A = some ⟨b, o, none⟩ ∧ b < w.heap.size ∧ w'.cell? ⟨b, o + j * 2, none⟩ = some (.int .u64 xs[j].1) ∧ w'.cell? ⟨b, o + j * 2 + 1, none⟩ = some (.int .u64 xs[j].2) := by
  obtain ⟨b, o, hA, hlt, hc⟩ := h.in_ hb hj
  exact ⟨b, o, hA, hlt, hc 0 _ rfl, hc 1 _ rfl⟩
theorem Row.key_at {w w' : World} {b o : Nat} {xs : List (Nat × Nat)} (h : Row w (some ⟨b, o, none⟩) 2 pairC xs) (hb : Below w.heap.size w w') {j : Nat} (hj : j < xs.length) : w'.cell? ⟨b, o + j * 2, none⟩ = some (.int .u64 (keyAt xs j)) := by
  obtain ⟨b', o', he, _, hc, _⟩ := h.pair_in hb hj
  cases he
  rw [hc]
  simp [keyAt, List.getD, hj]

set_option maxHeartbeats 1000000 in
theorem rise_any (A : Option Addr) (len cap : Nat) (xs : List (Nat × Nat)) (w : World) (hlen : xs.length = len) (hm : len ≤ 1000000) (hrow : Row w A 2 pairC xs) (hx : ∀ x ∈ xs, x.1 < 18446744073709551616) :
    Calls Tryd.prog 43 #[.slice A len cap] w fun e w' => e = .returned (.bool (riseB xs)) ∧ Ext w w' := by
  have hk : ∀ j, keyAt xs j < 18446744073709551616 := by
    intro j
    unfold keyAt
    by_cases hj : j < xs.length
    · have := hx _ (List.getElem_mem hj); simpa [List.getD, hj] using this
    · simp [List.getD, hj]
  have HK := Lib.hid hk
  clear hk hx
  go_enter Tryd.func43, Tryd.ntmps43
  go_wp2_with fail
  go_loopw [3] (fun i wr => ∃ j : Nat, i = .int .i64 ((j + 1 : Nat) : Int) ∧ (j + 1 ≤ len ∨ j = 0) ∧ Ext w wr ∧ Hid (∀ i, i < j → i + 1 < xs.length → keyAt xs i < keyAt xs (i + 1))) (fun i _ => len - (intOf i).toNat)
  case atStart => exact ⟨0, rfl, .inr rfl, Ext.refl _, fun i hi => absurd hi (by omega)⟩
  case round =>
    obtain ⟨j, rfl, hj, hEx, HJ⟩ := hrel
    by_cases hlt : j + 1 < len
    · obtain ⟨b0, o0, rfl, hlt0, -, -⟩ := hrow.pair_in hEx (show j < xs.length by omega)
      have HQ := Lib.hid (fun (W : World) (h : Ext wr W) => And.intro (hrow.key_at (hEx.trans h) (show j < xs.length by omega)) (hrow.key_at (hEx.trans h) (show j + 1 < xs.length by omega)))
      have h1 := HK.out j
      have h2 := HK.out (j + 1)
      have HJ1 := Lib.hid (show ∀ i, i < j + 1 → i + 1 < xs.length → (keyAt xs j < keyAt xs (j + 1)) → keyAt xs i < keyAt xs (i + 1) from fun i hi hl hh => by
        by_cases e : i = j
        · subst e; exact hh
        · exact HJ.out i (by omega) hl)
      have HN := Lib.hid (show ¬ keyAt xs j < keyAt xs (j + 1) → riseB xs = false from fun hh => by
        unfold riseB
        rw [decide_eq_false_iff_not]
        exact fun h => hh (h j (by omega) (by omega)))
      generalize keyAt xs j = k0 at HQ h1 HJ1 HN
      generalize keyAt xs (j + 1) = k1 at HQ h2 HJ1 HN
      have hsub : IntKind.i64.wrap (((j + 1 : Nat) : Int) - 1) = (j : Int) := by rw [IntWalk.i64_in _ (by omega)]; omega
      have hsub2 : IntKind.i64.wrap (j : Int) = (j : Int) := IntWalk.i64_in _ (by omega)
      go_upto_region 4 with fail
      refine wp_typed (R := Ext) (w0 := wr) [[], [], [1], [0, 1, 2], [0, 1, 2, 3], [0, 1, 2, 3, 4], [], [], [6, 7], [6, 7, 8], [6, 7, 8, 9], [0, 1, 2, 3, 4, 5, 6, 7, 8, 9, 10]] [10, 11, 12, 13, 14, 15, 16, 17, 18, 19, 20, 21] Ext.refl (fun _ _ _ => Ext.trans) (Ext.drew _) (by kernel_rfl) ?_
      apply Build.det 10 Ext.refl (by rfl) (by rfl) rfl
      case h =>   -- 0: t10 := Op.move (tmp 0)
        intro ax wx hE hR hF
        have e0 : ax.eval (.tmp 0) = .slice (some ⟨b0, o0, none⟩) len cap := hE.eval 0 (by rfl) rfl
        simp [go_sem, BigFrame.eval_const, BigFrame.eval_global, BigFrame.eval_func, ↓IntWalk.iteOmega, ev e0, hsub, hsub2]
        with_reducible rfl
      apply Build.det 11 Ext.refl (by rfl) (by rfl) rfl
      case h =>   -- 1: t11 := Op.move (tmp 3)
        intro ax wx hE hR hF
        have e3 : ax.eval (.tmp 3) = .int .i64 ((j + 1 : Nat) : Int) := hE.eval 3 (by rfl) rfl
        simp [go_sem, BigFrame.eval_const, BigFrame.eval_global, BigFrame.eval_func, ↓IntWalk.iteOmega, ev e3, hsub, hsub2]
        with_reducible rfl
      apply Build.det 12 Ext.refl (by rfl) (by rfl) rfl
      case h =>   -- 2: t12 := Op.binOp BinOp.sub 3 (tmp 11) (const (Value.int IntKind.i64 1)) 3
        intro ax wx hE hR hF
        have e11 : ax.eval (.tmp 11) = _ := hF 1 (det 11 _) (by decide) (.head _)
        simp [go_sem, BigFrame.eval_const, BigFrame.eval_global, BigFrame.eval_func, ↓IntWalk.iteOmega, ev e11, hsub, hsub2]
        with_reducible rfl
      apply Build.det 13 Ext.refl (by rfl) (by rfl) rfl
      case h =>   -- 3: t13 := Op.indexAddr 58 (tmp 10) (tmp 12)
        intro ax wx hE hR hF
        have e10 : ax.eval (.tmp 10) = _ := hF 0 (det 10 _) (by decide) (.tail _ (.tail _ (.head _)))
        have e12 : ax.eval (.tmp 12) = _ := hF 2 (det 12 _) (by decide) (.head _)
        simp [go_sem, BigFrame.eval_const, BigFrame.eval_global, BigFrame.eval_func, ↓IntWalk.iteOmega, ev e10, ev e12, hsub, hsub2]
        with_reducible rfl
      apply Build.det 14 Ext.refl (by rfl) (by rfl) rfl
      case h =>   -- 4: t14 := Op.fieldAddr 72 (tmp 13) 0
        intro ax wx hE hR hF
        have e13 : ax.eval (.tmp 13) = _ := hF 3 (det 13 _) (by decide) (.head _)
        simp [go_sem, BigFrame.eval_const, BigFrame.eval_global, BigFrame.eval_func, ↓IntWalk.iteOmega, ev e13, hsub, hsub2]
        with_reducible rfl
      apply Build.det 15 Ext.refl (by rfl) (by rfl) rfl
      case h =>   -- 5: t15 := Op.load 31 (tmp 14)
        intro ax wx hE hR hF
        have e14 : ax.eval (.tmp 14) = _ := hF 4 (det 14 _) (by decide) (.head _)
        have q0 := (HQ.out _ hR).1; have q1 := (HQ.out _ hR).2
        simp [go_sem, BigFrame.eval_const, BigFrame.eval_global, BigFrame.eval_func, ↓IntWalk.iteOmega, ev e14, hsub, hsub2, q0, q1]
        with_reducible rfl
      apply Build.det 16 Ext.refl (by rfl) (by rfl) rfl
      case h =>   -- 6: t16 := Op.move (tmp 0)
        intro ax wx hE hR hF
        have e0 : ax.eval (.tmp 0) = .slice (some ⟨b0, o0, none⟩) len cap := hE.eval 0 (by rfl) rfl
        simp [go_sem, BigFrame.eval_const, BigFrame.eval_global, BigFrame.eval_func, ↓IntWalk.iteOmega, ev e0, hsub, hsub2]
        with_reducible rfl
      apply Build.det 17 Ext.refl (by rfl) (by rfl) rfl
      case h =>   -- 7: t17 := Op.move (tmp 3)
        intro ax wx hE hR hF
        have e3 : ax.eval (.tmp 3) = .int .i64 ((j + 1 : Nat) : Int) := hE.eval 3 (by rfl) rfl
        simp [go_sem, BigFrame.eval_const, BigFrame.eval_global, BigFrame.eval_func, ↓IntWalk.iteOmega, ev e3, hsub, hsub2]
        with_reducible rfl
      apply Build.det 18 Ext.refl (by rfl) (by rfl) rfl
      case h =>   -- 8: t18 := Op.indexAddr 58 (tmp 16) (tmp 17)
        intro ax wx hE hR hF
        have e16 : ax.eval (.tmp 16) = _ := hF 6 (det 16 _) (by decide) (.tail _ (.head _))
        have e17 : ax.eval (.tmp 17) = _ := hF 7 (det 17 _) (by decide) (.head _)
        simp [go_sem, BigFrame.eval_const, BigFrame.eval_global, BigFrame.eval_func, ↓IntWalk.iteOmega, ev e16, ev e17, hsub, hsub2]
        with_reducible rfl
      apply Build.det 19 Ext.refl (by rfl) (by rfl) rfl
      case h =>   -- 9: t19 := Op.fieldAddr 72 (tmp 18) 0
        intro ax wx hE hR hF
        have e18 : ax.eval (.tmp 18) = _ := hF 8 (det 18 _) (by decide) (.head _)
        simp [go_sem, BigFrame.eval_const, BigFrame.eval_global, BigFrame.eval_func, ↓IntWalk.iteOmega, ev e18, hsub, hsub2]
        with_reducible rfl
      apply Build.det 20 Ext.refl (by rfl) (by rfl) rfl
      case h =>   -- 10: t20 := Op.load 31 (tmp 19)
        intro ax wx hE hR hF
        have e19 : ax.eval (.tmp 19) = _ := hF 9 (det 19 _) (by decide) (.head _)
        have q0 := (HQ.out _ hR).1; have q1 := (HQ.out _ hR).2
        simp [go_sem, BigFrame.eval_const, BigFrame.eval_global, BigFrame.eval_func, ↓IntWalk.iteOmega, ev e19, hsub, hsub2, q0, q1]
        with_reducible rfl
      apply Build.det 21 Ext.refl (by rfl) (by rfl) rfl
      case h =>   -- 11: t21 := Op.binOp BinOp.geq 31 (tmp 15) (tmp 20) 31
        intro ax wx hE hR hF
        have e15 : ax.eval (.tmp 15) = _ := hF 5 (det 15 _) (by decide) (.tail _ (.tail _ (.tail _ (.tail _ (.tail _ (.head _))))))
        have e20 : ax.eval (.tmp 20) = _ := hF 10 (det 20 _) (by decide) (.head _)
        simp [go_sem, BigFrame.eval_const, BigFrame.eval_global, BigFrame.eval_func, ↓IntWalk.iteOmega, ev e15, ev e20, hsub, hsub2]
        with_reducible rfl
      apply Build.stop
      refine ⟨by kernel_rfl, .inl ⟨rfl, ?_⟩⟩
      intro ax w2 hE R2 hF
      have e10 : ax.eval (.tmp 10) = _ := hF 0 (det 10 _) (.tail _ (.tail _ (.tail _ (.tail _ (.tail _ (.tail _ (.tail _ (.tail _ (.tail _ (.tail _ (.tail _ (.head _))))))))))))
      have e11 : ax.eval (.tmp 11) = _ := hF 1 (det 11 _) (.tail _ (.tail _ (.tail _ (.tail _ (.tail _ (.tail _ (.tail _ (.tail _ (.tail _ (.tail _ (.head _)))))))))))
      have e12 : ax.eval (.tmp 12) = _ := hF 2 (det 12 _) (.tail _ (.tail _ (.tail _ (.tail _ (.tail _ (.tail _ (.tail _ (.tail _ (.tail _ (.head _))))))))))
      have e13 : ax.eval (.tmp 13) = _ := hF 3 (det 13 _) (.tail _ (.tail _ (.tail _ (.tail _ (.tail _ (.tail _ (.tail _ (.tail _ (.head _)))))))))
      have e14 : ax.eval (.tmp 14) = _ := hF 4 (det 14 _) (.tail _ (.tail _ (.tail _ (.tail _ (.tail _ (.tail _ (.tail _ (.head _))))))))
      have e15 : ax.eval (.tmp 15) = _ := hF 5 (det 15 _) (.tail _ (.tail _ (.tail _ (.tail _ (.tail _ (.tail _ (.head _)))))))
      have e16 : ax.eval (.tmp 16) = _ := hF 6 (det 16 _) (.tail _ (.tail _ (.tail _ (.tail _ (.tail _ (.head _))))))
      have e17 : ax.eval (.tmp 17) = _ := hF 7 (det 17 _) (.tail _ (.tail _ (.tail _ (.tail _ (.head _)))))
      have e18 : ax.eval (.tmp 18) = _ := hF 8 (det 18 _) (.tail _ (.tail _ (.tail _ (.head _))))
      have e19 : ax.eval (.tmp 19) = _ := hF 9 (det 19 _) (.tail _ (.tail _ (.head _)))
      have e20 : ax.eval (.tmp 20) = _ := hF 10 (det 20 _) (.tail _ (.head _))
      have e21 : ax.eval (.tmp 21) = _ := hF 11 (det 21 _) (.head _)
      rw [AllEq.frame (D := [10, 11, 12, 13, 14, 15, 16, 17, 18, 19, 20, 21]) (AllEq.cons e10 (AllEq.cons e11 (AllEq.cons e12 (AllEq.cons e13 (AllEq.cons e14 (AllEq.cons e15 (AllEq.cons e16 (AllEq.cons e17 (AllEq.cons e18 (AllEq.cons e19 (AllEq.cons e20 (AllEq.cons e21 (AllEq.nil))))))))))))) hE rfl]
      clear hF hE e10 e11 e12 e13 e14 e15 e16 e17 e18 e19 e20 e21
      simp only [List.foldl_cons, List.foldl_nil, Act.put, List.setIfInBounds_toArray, List.set_cons_succ, List.set_cons_zero]

      have hE := hEx.trans R2
      by_cases hh : k0 < k1
      · have hd : decide (k1 ≤ k0) = false := by rw [decide_eq_false_iff_not]; omega
        have hd2 : decide ((k1 : Int) ≤ (k0 : Int)) = false := by rw [decide_eq_false_iff_not]; omega
        go_wp2_with fail
        go_roundw
        case rel => exact ⟨j + 1, by go_num, .inl (by omega), hE, fun i hi hl => HJ1.out i hi hl hh⟩
        case measure => simp [intOf]; omega
      · have hd : decide (k1 ≤ k0) = true := by rw [decide_eq_true_iff]; omega
        have hd2 : decide ((k1 : Int) ≤ (k0 : Int)) = true := by rw [decide_eq_true_iff]; omega
        go_wp2_with fail
        go_ret
        exact ⟨ret_bool (HN.out hh).symm, hE⟩
    · have HR : Hid (riseB xs = true) := by
        show riseB xs = true
        unfold riseB
        rw [decide_eq_true_iff]
        exact fun i hi hl => HJ.out i (by omega) hl
      go_wp2_with fail
      go_ret
      exact ⟨ret_bool HR.out.symm, hEx⟩
end Go.Proofs.YtencbdcfcpohaaaDoor

/- leaf: Find, Child. -/
namespace Go.Proofs.YtencbdcfcpohaaaDoor
set_option linter.unusedVariables false
set_option linter.unusedSimpArgs false
open Go.RowKit

theorem isnan_any (x : Nat) (w : World) : Calls Tryd.prog 66 #[.int .u64 x] w fun e w' => e = .returned (.bool false) ∧ w = w' := by
  go_enter Tryd.func66, Tryd.ntmps66
  go_wp2_with fail
  go_ret
  exact ⟨rfl, rfl⟩
def cmpN (x y : Nat) : Int := if x < y then -1 else if y < x then 1 else 0
theorem compare_any (x y : Nat) (w : World) : Calls Tryd.prog 51 #[.int .u64 x, .int .u64 y] w fun e w' => e = .returned (.int .i64 (cmpN x y)) ∧ w = w' := by
  by_cases h1 : x < y
  · have e : cmpN x y = -1 := by unfold cmpN; rw [if_pos h1]
    rw [e]
    clear e
    go_enter Tryd.func51, Tryd.ntmps51
    go_wp2_with fail
    refine (isnan_any x _).mono ?_
    rintro e w1 ⟨rfl, rfl⟩
    go_wp2_with fail
    refine (isnan_any y _).mono ?_
    rintro e w1 ⟨rfl, rfl⟩
    go_wp2_with fail
    go_ret
    exact ⟨rfl, rfl⟩
  · by_cases h2 : y < x
    · have e : cmpN x y = 1 := by unfold cmpN; rw [if_neg h1, if_pos h2]
      rw [e]
      clear e
      go_enter Tryd.func51, Tryd.ntmps51
      go_wp2_with fail
      refine (isnan_any x _).mono ?_
      rintro e w1 ⟨rfl, rfl⟩
      go_wp2_with fail
      refine (isnan_any y _).mono ?_
      rintro e w1 ⟨rfl, rfl⟩
      go_wp2_with fail
      go_ret
      exact ⟨rfl, rfl⟩
    · have e : cmpN x y = 0 := by unfold cmpN; rw [if_neg h1, if_neg h2]
      rw [e]
      clear e
      go_enter Tryd.func51, Tryd.ntmps51
      go_wp2_with fail
      refine (isnan_any x _).mono ?_
      rintro e w1 ⟨rfl, rfl⟩
      go_wp2_with fail
      refine (isnan_any y _).mono ?_
      rintro e w1 ⟨rfl, rfl⟩
      go_wp2_with fail
      go_ret
      exact ⟨rfl, rfl⟩
theorem find1_any (x v y : Nat) (w : World) : Calls Tryd.prog 50 #[.agg #[.int .u64 x, .int .u64 v], .int .u64 y] w fun e w' => e = .returned (.int .i64 (cmpN x y)) ∧ Ext w w' := by
  have hE := Lib.hid (Ext.alloc w (.cells #[.int .u64 x, .int .u64 v] 72))
  go_enter Tryd.func50, Tryd.ntmps50
  go_wp2_with fail
  refine (compare_any x y _).mono ?_
  rintro e w1 ⟨rfl, rfl⟩
  go_wp2_with fail
  go_ret
  exact ⟨rfl, hE.out⟩
end Go.Proofs.YtencbdcfcpohaaaDoor

/- leaf: Find, Child. -/
namespace Go.Proofs.YtencbdcfcpohaaaDoor
set_option linter.unusedVariables false
set_option linter.unusedSimpArgs false
open Go.RowKit

set_option maxHeartbeats 2000000 in
theorem bsearch_any (A : Option Addr) (len cap : Nat) (xs : List (Nat × Nat)) (w : World) (hlen : xs.length = len) (hm : len ≤ 1000000) (hrow : Row w A 2 pairC xs) (key n : Nat) (hn : n ≤ len) (hb : ∀ i, i < n → keyAt xs i < key) (ha : ∀ i, n ≤ i → i < len → key ≤ keyAt xs i) :
    Calls Tryd.prog 49 #[.slice A len cap, .int .u64 key, .func (.func 50) #[] #[]] w fun e w' => e = .returned (.tuple #[.int .i64 n, .bool (decide (n < len ∧ keyAt xs n = key))]) ∧ Ext w w' := by
  have HB := Lib.hid hb
  have HA := Lib.hid ha
  clear hb ha
  go_enter Tryd.func49, Tryd.ntmps49
  go_wp2_with fail
  go_loopw [9, 10] (fun i j wr => ∃ (lo hi : Nat), i = .int .i64 lo ∧ j = .int .i64 hi ∧ lo ≤ n ∧ n ≤ hi ∧ hi ≤ len ∧ Ext w wr) (fun i j _ => (intOf j).toNat - (intOf i).toNat)
  case atStart => exact ⟨0, len, rfl, rfl, by omega, hn, by omega, Ext.refl _⟩
  case round =>
    obtain ⟨lo, hi, rfl, rfl, h1, h2, h3, hEx⟩ := hrel
    by_cases hlt : lo < hi
    · obtain ⟨m, hm2⟩ : ∃ m : Nat, (lo + hi) / 2 = m := ⟨_, rfl⟩
      have hm3 : lo ≤ m ∧ m < hi := by omega
      obtain ⟨b0, o0, rfl, hlt0, q0, q1⟩ := hrow.pair_in hEx (show m < xs.length by omega)
      have hM : ((lo : Int) + hi) / 2 = (m : Int) := by omega
      have hkm : keyAt xs m = xs[m].1 := by simp [keyAt, List.getD, show m < xs.length by omega]
      obtain ⟨c, hc⟩ : ∃ c : Int, cmpN xs[m].1 key = c := ⟨_, rfl⟩
      have HF := Lib.hid (fun W => hc ▸ find1_any xs[m].1 xs[m].2 key W)
      by_cases hmn : m < n
      · have hlt := HB.out m hmn
        have hc0 : decide (c < 0) = true := by rw [decide_eq_true_iff, ← hc]; unfold cmpN; rw [if_pos (by omega)]; decide
        have hc1 : c < 0 := by simpa using hc0
        clear hc hkm hlt
        go_wp2_with fail
        refine (HF.out _).mono ?_
        rintro e w2 ⟨rfl, R2⟩
        go_wp2_with fail
        go_roundw
        case rel => exact ⟨m + 1, hi, by go_num, rfl, by omega, h2, h3, hEx.trans R2⟩
        case measure => simp [intOf]; omega
      · have hge := HA.out m (by omega) (by omega)
        have hc0 : decide (c < 0) = false := by rw [decide_eq_false_iff_not, ← hc]; unfold cmpN; rw [if_neg (by omega)]; split <;> decide
        have hc1 : ¬ c < 0 := by simpa using hc0
        clear hc hkm hge
        go_wp2_with fail
        refine (HF.out _).mono ?_
        rintro e w2 ⟨rfl, R2⟩
        go_wp2_with fail
        go_roundw
        case rel => exact ⟨lo, m, rfl, rfl, h1, by omega, by omega, hEx.trans R2⟩
        case measure => simp [intOf]; omega
    · obtain rfl : n = lo := by omega
      obtain rfl : n = hi := by omega
      by_cases hnl : n < len
      · obtain ⟨b0, o0, rfl, hlt0, q0, q1⟩ := hrow.pair_in hEx (show n < xs.length by omega)
        have hkn : keyAt xs n = xs[n].1 := by simp [keyAt, List.getD, show n < xs.length by omega]
        obtain ⟨c, hc⟩ : ∃ c : Int, cmpN xs[n].1 key = c := ⟨_, rfl⟩
        have HF := Lib.hid (fun W => hc ▸ find1_any xs[n].1 xs[n].2 key W)
        have HC := Lib.hid (show (c == 0) = decide (n < len ∧ keyAt xs n = key) by
          rw [Bool.eq_iff_iff, beq_iff_eq, decide_eq_true_iff, ← hc, hkn]
          unfold cmpN
          constructor
          · intro h
            refine ⟨hnl, ?_⟩
            split at h
            · cases h
            · split at h
              · cases h
              · omega
          · intro h
            rw [if_neg (by omega), if_neg (by omega)])
        clear hc hkn
        go_wp2_with fail
        refine (HF.out _).mono ?_
        rintro e w2 ⟨rfl, R2⟩
        go_wp2_with fail
        go_ret2
        exact ⟨by rw [← HC.out]; rfl, hEx.trans R2⟩
      · have HC := Lib.hid (show false = decide (n < len ∧ keyAt xs n = key) from (decide_eq_false (fun h => hnl h.1)).symm)
        go_wp2_with fail
        go_ret2
        exact ⟨by rw [← HC.out]; rfl, hEx⟩
end Go.Proofs.YtencbdcfcpohaaaDoor

/- leaf: Find, Child. -/
namespace Go.Proofs.YtencbdcfcpohaaaDoor
set_option linter.unusedVariables false
set_option linter.unusedSimpArgs false
open Go.RowKit

theorem Row.ext {E : Type} {w w' : World} {A : Option Addr} {c : Nat} {enc : E → List Value} {xs : List E} (h : Row w A c enc xs) (hb : Ext w w') : Row w' A c enc xs := h.below hb
/-- The place that a key has. -/
structure Place (xs : List (Nat × Nat)) (key n : Nat) : Prop where
  le : n ≤ xs.length
  below : ∀ i, i < n → keyAt xs i < key
  above : ∀ i, n ≤ i → i < xs.length → key ≤ keyAt xs i
theorem find_any (lv : Int) (A : Option Addr) (len cap : Nat) (xs : List (Nat × Nat)) (w : World) (hlen : xs.length = len) (hm : len ≤ 1000000) (hrow : Row w A 2 pairC xs) (key n : Nat) (hp : Place xs key n) :
    Calls Tryd.prog 33 #[.agg #[.int .i64 lv, .slice A len cap], .int .u64 key] w fun e w' => e = .returned (.tuple #[.int .i64 n, .bool (decide (n < len ∧ keyAt xs n = key))]) ∧ Ext w w' := by
  have hE := Ext.alloc w (.cells #[.int .i64 lv, .slice A len cap] 60)
  have HC := Lib.hid (bsearch_any A len cap xs (w.alloc (.cells #[.int .i64 lv, .slice A len cap] 60)) hlen hm (hrow.ext hE) key n (by have := hp.le; omega) hp.below (fun i h1 h2 => hp.above i h1 (by omega)))
  have HE := Lib.hid hE
  generalize decide (n < len ∧ keyAt xs n = key) = B at HC ⊢
  clear hE hp hrow
  go_enter Tryd.func33, Tryd.ntmps33
  go_wp2_with fail
  refine HC.out.mono ?_
  rintro e w2 ⟨rfl, R2⟩
  have HR := Lib.hid (HE.out.trans R2)
  clear R2 HC
  go_wp2_with fail
  go_ret2
  exact ⟨rfl, HR.out⟩
theorem child_any (lv : Int) (A : Option Addr) (len cap : Nat) (xs : List (Nat × Nat)) (w : World) (hlen : xs.length = len) (hm : len ≤ 1000000) (hrow : Row w A 2 pairC xs) (key n : Nat) (hp : Place xs key n) :
    Calls Tryd.prog 34 #[.agg #[.int .i64 lv, .slice A len cap], .int .u64 key] w fun e w' => e = .returned (.int .i64 (if n < len ∧ keyAt xs n = key then (n : Int) else (n : Int) - 1)) ∧ Ext w w' := by
  have hE := Ext.alloc w (.cells #[.int .i64 lv, .slice A len cap] 60)
  have HC := Lib.hid (find_any lv A len cap xs (w.alloc (.cells #[.int .i64 lv, .slice A len cap] 60)) hlen hm (hrow.ext hE) key n hp)
  have HE := Lib.hid hE
  have hn : n ≤ 1000000 := by have := hp.le; omega
  have hi : (if n < len ∧ keyAt xs n = key then (n : Int) else (n : Int) - 1) = if decide (n < len ∧ keyAt xs n = key) = true then (n : Int) else (n : Int) - 1 := by simp only [decide_eq_true_iff]
  rw [hi]
  generalize decide (n < len ∧ keyAt xs n = key) = B at HC ⊢
  clear hE hp hrow hi
  cases B
  · go_enter Tryd.func34, Tryd.ntmps34
    go_wp2_with fail
    refine HC.out.mono ?_
    rintro e w2 ⟨rfl, R2⟩
    have HR := Lib.hid (HE.out.trans R2)
    clear R2 HC
    go_wp2_with fail
    go_ret
    exact ⟨rfl, HR.out⟩
  · go_enter Tryd.func34, Tryd.ntmps34
    go_wp2_with fail
    refine HC.out.mono ?_
    rintro e w2 ⟨rfl, R2⟩
    have HR := Lib.hid (HE.out.trans R2)
    clear R2 HC
    go_wp2_with fail
    go_ret
    exact ⟨rfl, HR.out⟩
end Go.Proofs.YtencbdcfcpohaaaDoor

/- leaf: Good. -/
namespace Go.Proofs.YtencbdcfcpohaaaDoor
set_option linter.unusedVariables false
set_option linter.unusedSimpArgs false
open Go.RowKit

def farB (v : Nat) : Bool := decide (v < 1) || decide (512 ≤ v)
theorem far_any (k v : Nat) (w : World) : Calls Tryd.prog 44 #[.agg #[.int .u64 k, .int .u64 v]] w fun e w' => e = .returned (.bool (farB v)) ∧ Ext w w' := by
  have hE := Lib.hid (Ext.alloc w (.cells #[.int .u64 k, .int .u64 v] 72))
  by_cases h1 : v < 1
  · have e : farB v = true := by unfold farB; simp [h1]
    rw [e]
    obtain rfl : v = 0 := by omega
    clear e
    go_enter Tryd.func44, Tryd.ntmps44
    go_wp2_with fail
    go_ret
    exact ⟨rfl, hE.out⟩
  · have h1d : decide (v < 1) = false := by simpa using h1
    have h1i : decide ((v : Int) < 1) = false := by rw [decide_eq_false_iff_not]; omega
    have h1z : ¬ v = 0 := by omega
    by_cases h2 : 512 ≤ v
    · have e : farB v = true := by unfold farB; rw [Bool.or_eq_true, decide_eq_true_iff, decide_eq_true_iff]; exact .inr h2
      rw [e]
      have h2i : decide ((512 : Int) ≤ (v : Int)) = true := by rw [decide_eq_true_iff]; omega
      have h2d : decide (512 ≤ v) = true := by rw [decide_eq_true_iff]; omega
      clear e
      go_enter Tryd.func44, Tryd.ntmps44
      go_wp2_with fail
      go_ret
      exact ⟨rfl, hE.out⟩
    · have e : farB v = false := by unfold farB; rw [Bool.or_eq_false_iff, decide_eq_false_iff_not, decide_eq_false_iff_not]; exact ⟨h1, h2⟩
      rw [e]
      have h2i : decide ((512 : Int) ≤ (v : Int)) = false := by rw [decide_eq_false_iff_not]; omega
      have h2d : decide (512 ≤ v) = false := by rw [decide_eq_false_iff_not]; omega
      clear e
      go_enter Tryd.func44, Tryd.ntmps44
      go_wp2_with fail
      go_ret
      exact ⟨rfl, hE.out⟩
set_option maxHeartbeats 1000000 in
theorem index_any (A : Option Addr) (len cap : Nat) (xs : List (Nat × Nat)) (w : World) (hlen : xs.length = len) (hm : len ≤ 1000000) (hrow : Row w A 2 pairC xs) :
    Calls Tryd.prog 64 #[.slice A len cap, .func (.func 44) #[] #[]] w fun e w' => ∃ r : Int, e = .returned (.int .i64 r) ∧ decide (0 ≤ r) = xs.any (fun x => farB x.2) ∧ Ext w w' := by
  go_enter Tryd.func64, Tryd.ntmps64
  go_wp2_with fail
  go_loopw [8] (fun i wr => ∃ j : Nat, i = .int .i64 j ∧ j ≤ len ∧ Ext w wr ∧ Hid ((xs.take j).any (fun x => farB x.2) = false)) (fun i _ => len - (intOf i).toNat)
  case atStart => exact ⟨0, rfl, by omega, Ext.refl _, by simp [Hid]⟩
  case round =>
    obtain ⟨j, rfl, hj, hEx, HJ⟩ := hrel
    by_cases hlt : j < len
    · have hjx : j < xs.length := by omega
      obtain ⟨b0, o0, rfl, hlt0, q0, q1⟩ := hrow.pair_in hEx hjx
      have HF := Lib.hid (fun W => far_any xs[j].1 xs[j].2 W)
      have htk : (xs.take (j + 1)).any (fun x => farB x.2) = ((xs.take j).any (fun x => farB x.2) || farB xs[j].2) := by
        rw [List.take_succ_eq_append_getElem hjx, List.any_append]
        simp only [List.any_cons, List.any_nil, Bool.or_false]
      rw [HJ.out, Bool.false_or] at htk
      have hin : farB xs[j].2 = true → xs.any (fun x => farB x.2) = true := fun h => List.any_eq_true.2 ⟨_, List.getElem_mem hjx, h⟩
      generalize farB xs[j].2 = B at HF htk hin
      have HTK := Lib.hid htk
      have HIN := Lib.hid hin
      clear htk hin
      cases B
      · go_wp2_with fail
        refine (HF.out _).mono ?_
        rintro e w2 ⟨rfl, R2⟩
        go_wp2_with fail
        go_roundw
        case rel => exact ⟨j + 1, by go_num, by omega, hEx.trans R2, HTK.out⟩
        case measure => simp [intOf]; omega
      · go_wp2_with fail
        refine (HF.out _).mono ?_
        rintro e w2 ⟨rfl, R2⟩
        go_wp2_with fail
        go_ret
        exact ⟨(j : Int), rfl, by rw [HIN.out (by trivial), decide_eq_true_iff]; omega, hEx.trans R2⟩
    · have HA : Hid (xs.any (fun x => farB x.2) = false) := by
        have := HJ.out
        rwa [List.take_of_length_le (by omega)] at this
      go_wp2_with fail
      go_ret
      exact ⟨-1, rfl, by rw [HA.out]; decide, hEx⟩
theorem contains_any (A : Option Addr) (len cap : Nat) (xs : List (Nat × Nat)) (w : World) (hlen : xs.length = len) (hm : len ≤ 1000000) (hrow : Row w A 2 pairC xs) :
    Calls Tryd.prog 45 #[.slice A len cap, .func (.func 44) #[] #[]] w fun e w' => e = .returned (.bool (xs.any (fun x => farB x.2))) ∧ Ext w w' := by
  go_enter Tryd.func45, Tryd.ntmps45
  go_wp2_with fail
  refine (index_any A len cap xs _ hlen hm hrow).mono ?_
  rintro e w2 ⟨r, rfl, hr, R2⟩
  have HR := Lib.hid hr
  clear hr
  go_wp2_with fail
  go_ret
  exact ⟨ret_bool HR.out, R2⟩
end Go.Proofs.YtencbdcfcpohaaaDoor

/- leaf: Good. -/
namespace Go.Proofs.YtencbdcfcpohaaaDoor
set_option linter.unusedVariables false
set_option linter.unusedSimpArgs false
open Go.RowKit

/-- Whether a node can be. -/
def goodB (lv : Int) (xs : List (Nat × Nat)) : Bool :=
  decide (0 ≤ lv ∧ lv < 8 ∧ xs.length ≤ 15) && (riseB xs && (decide (lv = 0) || (decide (0 < xs.length) && !xs.any (fun x => farB x.2))))
set_option maxHeartbeats 1000000 in
theorem good_any (lv : Int) (A : Option Addr) (len cap : Nat) (xs : List (Nat × Nat)) (w : World) (hlen : xs.length = len) (hm : len ≤ 1000000) (hrow : Row w A 2 pairC xs) (hx : ∀ x ∈ xs, x.1 < 18446744073709551616) :
    Calls Tryd.prog 27 #[.agg #[.int .i64 lv, .slice A len cap]] w fun e w' => e = .returned (.bool (goodB lv xs)) ∧ Ext w w' := by
  have hE := Ext.alloc w (.cells #[.int .i64 lv, .slice A len cap] 60)
  have hX : Blk (w.alloc (.cells #[.int .i64 lv, .slice A len cap] 60)) w.heap.size 60 #[.int .i64 lv, .slice A len cap] := Blk.new _ _ _
  have HR := Lib.hid (fun W (h : Ext (w.alloc (.cells #[.int .i64 lv, .slice A len cap] 60)) W) => rise_any A len cap xs W hlen hm (hrow.ext (hE.trans h)) hx)
  have HC := Lib.hid (fun W (h : Ext (w.alloc (.cells #[.int .i64 lv, .slice A len cap] 60)) W) => contains_any A len cap xs W hlen hm (hrow.ext (hE.trans h)))
  have HE := Lib.hid hE
  have HX := Lib.hid hX
  have hgd : goodB lv xs = (decide (0 ≤ lv ∧ lv < 8 ∧ len ≤ 15) && (riseB xs && (decide (lv = 0) || (decide (0 < len) && !xs.any (fun x => farB x.2))))) := by unfold goodB; rw [hlen]
  rw [hgd]
  generalize riseB xs = RB at HR ⊢
  generalize xs.any (fun x => farB x.2) = FB at HC ⊢
  clear hE hX hrow hx hgd hlen
  by_cases h1 : 0 ≤ lv ∧ lv < 8 ∧ len ≤ 15
  · rw [decide_eq_true h1, Bool.true_and]
    obtain ⟨ha, hb, hc⟩ := h1
    have d1 : decide (lv < 0) = false := by rw [decide_eq_false_iff_not]; omega
    have d2 : decide (8 ≤ lv) = false := by rw [decide_eq_false_iff_not]; omega
    have d3 : decide ((15 : Int) < (len : Int)) = false := by rw [decide_eq_false_iff_not]; omega
    cases RB
    · rw [Bool.false_and]
      go_enter Tryd.func27, Tryd.ntmps27
      go_wp2_with fail
      refine (HR.out _ (Ext.refl _)).mono ?_
      rintro e w2 ⟨rfl, R2⟩
      go_wp2_with fail
      go_ret
      exact ⟨rfl, HE.out.trans R2⟩
    · rw [Bool.true_and]
      by_cases h0 : lv = 0
      · rw [decide_eq_true h0, Bool.true_or]
        subst h0
        go_enter Tryd.func27, Tryd.ntmps27
        go_wp2_with fail
        refine (HR.out _ (Ext.refl _)).mono ?_
        rintro e w2 ⟨rfl, R2⟩
        have X2 := HX.out.ext R2
        have q0 := X2.cell 0
        have q1 := X2.cell 1
        clear X2
        go_wp2_with fail
        go_ret
        exact ⟨rfl, HE.out.trans R2⟩
      · rw [decide_eq_false h0, Bool.false_or]
        have d4 : (lv == 0) = false := by simpa using h0
        by_cases hl : 0 < len
        · rw [decide_eq_true hl, Bool.true_and]
          have d5 : decide ((0 : Int) < (len : Int)) = true := by rw [decide_eq_true_iff]; omega
          go_enter Tryd.func27, Tryd.ntmps27
          go_wp2_with fail
          refine (HR.out _ (Ext.refl _)).mono ?_
          rintro e w2 ⟨rfl, R2⟩
          have X2 := HX.out.ext R2
          have q0 := X2.cell 0
          have q1 := X2.cell 1
          clear X2
          go_wp2_with fail
          refine (HC.out _ R2).mono ?_
          rintro e w3 ⟨rfl, R3⟩
          go_wp2_with fail
          go_ret
          exact ⟨rfl, (HE.out.trans R2).trans R3⟩
        · rw [decide_eq_false hl, Bool.false_and]
          obtain rfl : len = 0 := by omega
          go_enter Tryd.func27, Tryd.ntmps27
          go_wp2_with fail
          refine (HR.out _ (Ext.refl _)).mono ?_
          rintro e w2 ⟨rfl, R2⟩
          have X2 := HX.out.ext R2
          have q0 := X2.cell 0
          have q1 := X2.cell 1
          clear X2
          go_wp2_with fail
          go_ret
          exact ⟨rfl, HE.out.trans R2⟩
  · rw [decide_eq_false h1, Bool.false_and]
    clear HR HC
    by_cases ha : lv < 0
    · have d1 : decide (lv < 0) = true := by rw [decide_eq_true_iff]; omega
      go_enter Tryd.func27, Tryd.ntmps27
      go_wp2_with fail
      go_ret
      exact ⟨rfl, HE.out⟩
    · have d1 : decide (lv < 0) = false := by rw [decide_eq_false_iff_not]; omega
      by_cases hb : 8 ≤ lv
      · have d2 : decide (8 ≤ lv) = true := by rw [decide_eq_true_iff]; omega
        go_enter Tryd.func27, Tryd.ntmps27
        go_wp2_with fail
        go_ret
        exact ⟨rfl, HE.out⟩
      · have d2 : decide (8 ≤ lv) = false := by rw [decide_eq_false_iff_not]; omega
        have d3 : decide ((15 : Int) < (len : Int)) = true := by rw [decide_eq_true_iff]; omega
        have hc : 15 < len := by omega
        go_enter Tryd.func27, Tryd.ntmps27
        go_wp2_with fail
        go_ret
        exact ⟨rfl, HE.out⟩
end Go.Proofs.YtencbdcfcpohaaaDoor
