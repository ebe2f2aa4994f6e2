/- leaf: pairs, rise. -/
import Derived.Test.YtbfgacmfjfbooaaKReachExact00
import Derived.Test.YtbfgacmfjfbooaaKReachExact03
import Derived.Test.YtbfgacmfjfbooaaKReachExact04
import Derived.Test.YtbfgacmfjfbooaaKReachExact01
namespace Go.Proofs.Ytbfgacmfjfbooaa
attribute [local simp] BigFrame.eval_const BigFrame.eval_global BigFrame.eval_func
set_option linter.unusedVariables false
set_option linter.unusedSimpArgs false
open Go.RowKit

def pairC (x : Nat × Nat) : List Value := [.int .u64 x.1, .int .u64 x.2]
def keyAt (xs : List (Nat × Nat)) (i : Nat) : Nat := (xs.getD i (0, 0)).1
def riseB (xs : List (Nat × Nat)) : Bool := decide (∀ i, i < xs.length → i + 1 < xs.length → keyAt xs i < keyAt xs (i + 1))
theorem Row.pair_in {w w' : World} {A : Option Addr} {xs : List (Nat × Nat)} (h : Row w A 2 pairC xs) (hb : Below w.heap.size w w') {j : Nat} (hj : j < xs.length) :
    ∃ b o, A = some ⟨b, o, none⟩ ∧ b < w.heap.size ∧ w'.cell? ⟨b, o + j * 2, none⟩ = some (.int .u64 xs[j].1) ∧ w'.cell? ⟨b, o + j * 2 + 1, none⟩ = some (.int .u64 xs[j].2) := by
  obtain ⟨b, o, hA, hlt, hc⟩ := h.in_ hb hj
  exact ⟨b, o, hA, hlt, hc 0 _ rfl, hc 1 _ rfl⟩
theorem Row.key_at {w w' : World} {b o : Nat} {xs : List (Nat × Nat)} (h : Row w (some ⟨b, o, none⟩) 2 pairC xs) (hb : Below w.heap.size w w') {j : Nat} (hj : j < xs.length) : w'.cell? ⟨b, o + j * 2, none⟩ = some (.int .u64 (keyAt xs j)) := by
  obtain ⟨b', o', he, _, hc, _⟩ := h.pair_in hb hj
  cases he
  rw [hc]
  simp [keyAt, List.getD, hj]

set_option maxHeartbeats 1000000 in
theorem rise_any (A : Option Addr) (len cap : Nat) (xs : List (Nat × Nat)) (w : World) (hlen : xs.length = len) (hm : len ≤ 1000000) (hrow : Row w A 2 pairC xs) (hx : ∀ x ∈ xs, x.1 < 18446744073709551616) :
    Calls Try.prog 124 #[.slice A len cap] w fun e w' => e = .returned (.bool (riseB xs)) ∧ Ext w w' := by
  have hk : ∀ j, keyAt xs j < 18446744073709551616 := by
    intro j
    unfold keyAt
    by_cases hj : j < xs.length
    · have := hx _ (List.getElem_mem hj); simpa [List.getD, hj] using this
    · simp [List.getD, hj]
  have HK := Lib.hid hk
  clear hk hx
  go_enter Try.func124, Try.ntmps124
  go_wp2_with fail
  go_loopw [3] (fun i wr => ∃ j : Nat, i = .int .i64 ((j + 1 : Nat) : Int) ∧ (j + 1 ≤ len ∨ j = 0) ∧ Ext w wr ∧ Hid (∀ i, i < j → i + 1 < xs.length → keyAt xs i < keyAt xs (i + 1))) (fun i _ => len - (intOf i).toNat)
  case atStart => exact ⟨0, rfl, .inr rfl, Ext.refl _, fun i hi => absurd hi (by omega)⟩
  case round =>
    obtain ⟨j, rfl, hj, hEx, HJ⟩ := hrel
    by_cases hlt : j + 1 < len
    · obtain ⟨b0, o0, rfl, hlt0, -, -⟩ := hrow.pair_in hEx (show j < xs.length by omega)
      have HQ := Lib.hid (fun (W : World) (h : Ext wr W) => And.intro (hrow.key_at (hEx.trans h) (show j < xs.length by omega)) (hrow.key_at (hEx.trans h) (show j + 1 < xs.length by omega)))
      have h1 := HK.out j
      have h2 := HK.out (j + 1)
      have HJ1 := Lib.hid (show ∀ i, i < j + 1 → i + 1 < xs.length → (keyAt xs j < keyAt xs (j + 1)) → keyAt xs i < keyAt xs (i + 1) from fun i hi hl hh => by
        by_cases e : i = j
        · subst e; exact hh
        · exact HJ.out i (by omega) hl)
      have HN := Lib.hid (show ¬ keyAt xs j < keyAt xs (j + 1) → riseB xs = false from fun hh => by
        unfold riseB
        rw [decide_eq_false_iff_not]
        exact fun h => hh (h j (by omega) (by omega)))
      generalize keyAt xs j = k0 at HQ h1 HJ1 HN
      generalize keyAt xs (j + 1) = k1 at HQ h2 HJ1 HN
      have hsub : IntKind.i64.wrap (((j + 1 : Nat) : Int) - 1) = (j : Int) := by rw [IntWalk.i64_in _ (by omega)]; omega
      have hsub2 : IntKind.i64.wrap (j : Int) = (j : Int) := IntWalk.i64_in _ (by omega)
      go_upto_region 4 with fail
      refine Z0b (R := Ext) (w0 := wr) [[], [], [1], [0, 1, 2], [0, 1, 2, 3], [0, 1, 2, 3, 4], [], [], [6, 7], [6, 7, 8], [6, 7, 8, 9], [0, 1, 2, 3, 4, 5, 6, 7, 8, 9, 10]] [10, 11, 12, 13, 14, 15, 16, 17, 18, 19, 20, 21] Ext.refl (fun _ _ _ => Ext.trans) (Ext.drew _) (by kernel_rfl) ?_
      apply Build.det 10 Ext.refl (by rfl) (by rfl) rfl
      case h =>
        intro ax wx hE hR hF
        have e0 : ax.eval (.tmp 0) = .slice (some ⟨b0, o0, none⟩) len cap := hE.eval 0 (by rfl) rfl
        simp [go_sem, ↓IntWalk.iteOmega, ev e0, hsub, hsub2]
        with_reducible rfl
      apply Build.det 11 Ext.refl (by rfl) (by rfl) rfl
      case h =>
        intro ax wx hE hR hF
        have e3 : ax.eval (.tmp 3) = .int .i64 ((j + 1 : Nat) : Int) := hE.eval 3 (by rfl) rfl
        simp [go_sem, ↓IntWalk.iteOmega, ev e3, hsub, hsub2]
        with_reducible rfl
      apply Build.det 12 Ext.refl (by rfl) (by rfl) rfl
      case h =>
        intro ax wx hE hR hF
        have e11 := hF 1 (det 11 _) (by decide) (.head _)
        simp [go_sem, ↓IntWalk.iteOmega, ev e11, hsub, hsub2]
        with_reducible rfl
      apply Build.det 13 Ext.refl (by rfl) (by rfl) rfl
      case h =>
        intro ax wx hE hR hF
        have e10 := hF 0 (det 10 _) (by decide) (.tail _ (.tail _ (.head _)))
        have e12 := hF 2 (det 12 _) (by decide) (.head _)
        simp [go_sem, ↓IntWalk.iteOmega, ev e10, ev e12, hsub, hsub2]
        with_reducible rfl
      apply Build.det 14 Ext.refl (by rfl) (by rfl) rfl
      case h =>
        intro ax wx hE hR hF
        have e13 := hF 3 (det 13 _) (by decide) (.head _)
        simp [go_sem, ↓IntWalk.iteOmega, ev e13, hsub, hsub2]
        with_reducible rfl
      apply Build.det 15 Ext.refl (by rfl) (by rfl) rfl
      case h =>
        intro ax wx hE hR hF
        have e14 := hF 4 (det 14 _) (by decide) (.head _)
        have q0 := (HQ.out _ hR).1; have q1 := (HQ.out _ hR).2
        simp [go_sem, ↓IntWalk.iteOmega, ev e14, hsub, hsub2, q0, q1]
        with_reducible rfl
      apply Build.det 16 Ext.refl (by rfl) (by rfl) rfl
      case h =>
        intro ax wx hE hR hF
        have e0 : ax.eval (.tmp 0) = .slice (some ⟨b0, o0, none⟩) len cap := hE.eval 0 (by rfl) rfl
        simp [go_sem, ↓IntWalk.iteOmega, ev e0, hsub, hsub2]
        with_reducible rfl
      apply Build.det 17 Ext.refl (by rfl) (by rfl) rfl
      case h =>
        intro ax wx hE hR hF
        have e3 : ax.eval (.tmp 3) = .int .i64 ((j + 1 : Nat) : Int) := hE.eval 3 (by rfl) rfl
        simp [go_sem, ↓IntWalk.iteOmega, ev e3, hsub, hsub2]
        with_reducible rfl
      apply Build.det 18 Ext.refl (by rfl) (by rfl) rfl
      case h =>
        intro ax wx hE hR hF
        have e16 := hF 6 (det 16 _) (by decide) (.tail _ (.head _))
        have e17 := hF 7 (det 17 _) (by decide) (.head _)
        simp [go_sem, ↓IntWalk.iteOmega, ev e16, ev e17, hsub, hsub2]
        with_reducible rfl
      apply Build.det 19 Ext.refl (by rfl) (by rfl) rfl
      case h =>
        intro ax wx hE hR hF
        have e18 := hF 8 (det 18 _) (by decide) (.head _)
        simp [go_sem, ↓IntWalk.iteOmega, ev e18, hsub, hsub2]
        with_reducible rfl
      apply Build.det 20 Ext.refl (by rfl) (by rfl) rfl
      case h =>
        intro ax wx hE hR hF
        have e19 := hF 9 (det 19 _) (by decide) (.head _)
        have q0 := (HQ.out _ hR).1; have q1 := (HQ.out _ hR).2
        simp [go_sem, ↓IntWalk.iteOmega, ev e19, hsub, hsub2, q0, q1]
        with_reducible rfl
      apply Build.det 21 Ext.refl (by rfl) (by rfl) rfl
      case h =>
        intro ax wx hE hR hF
        have e15 := hF 5 (det 15 _) (by decide) (.tail _ (.tail _ (.tail _ (.tail _ (.tail _ (.head _))))))
        have e20 := hF 10 (det 20 _) (by decide) (.head _)
        simp [go_sem, ↓IntWalk.iteOmega, ev e15, ev e20, hsub, hsub2]
        with_reducible rfl
      apply Build.stop
      refine ⟨by kernel_rfl, .inl ⟨rfl, ?_⟩⟩
      intro ax w2 hE R2 hF
      have e10 := hF 0 (det 10 _) (.tail _ (.tail _ (.tail _ (.tail _ (.tail _ (.tail _ (.tail _ (.tail _ (.tail _ (.tail _ (.tail _ (.head _))))))))))))
      have e11 := hF 1 (det 11 _) (.tail _ (.tail _ (.tail _ (.tail _ (.tail _ (.tail _ (.tail _ (.tail _ (.tail _ (.tail _ (.head _)))))))))))
      have e12 := hF 2 (det 12 _) (.tail _ (.tail _ (.tail _ (.tail _ (.tail _ (.tail _ (.tail _ (.tail _ (.tail _ (.head _))))))))))
      have e13 := hF 3 (det 13 _) (.tail _ (.tail _ (.tail _ (.tail _ (.tail _ (.tail _ (.tail _ (.tail _ (.head _)))))))))
      have e14 := hF 4 (det 14 _) (.tail _ (.tail _ (.tail _ (.tail _ (.tail _ (.tail _ (.tail _ (.head _))))))))
      have e15 := hF 5 (det 15 _) (.tail _ (.tail _ (.tail _ (.tail _ (.tail _ (.tail _ (.head _)))))))
      have e16 := hF 6 (det 16 _) (.tail _ (.tail _ (.tail _ (.tail _ (.tail _ (.head _))))))
      have e17 := hF 7 (det 17 _) (.tail _ (.tail _ (.tail _ (.tail _ (.head _)))))
      have e18 := hF 8 (det 18 _) (.tail _ (.tail _ (.tail _ (.head _))))
      have e19 := hF 9 (det 19 _) (.tail _ (.tail _ (.head _)))
      have e20 := hF 10 (det 20 _) (.tail _ (.head _))
      have e21 := hF 11 (det 21 _) (.head _)
      rw [AllEq.frame (D := [10, 11, 12, 13, 14, 15, 16, 17, 18, 19, 20, 21]) (AllEq.cons e10 (AllEq.cons e11 (AllEq.cons e12 (AllEq.cons e13 (AllEq.cons e14 (AllEq.cons e15 (AllEq.cons e16 (AllEq.cons e17 (AllEq.cons e18 (AllEq.cons e19 (AllEq.cons e20 (AllEq.cons e21 (AllEq.nil))))))))))))) hE rfl]
      clear hF hE e10 e11 e12 e13 e14 e15 e16 e17 e18 e19 e20 e21
      simp only [List.foldl_cons, List.foldl_nil, Act.put, List.setIfInBounds_toArray, List.set_cons_succ, List.set_cons_zero]

      have hE := hEx.trans R2
      by_cases hh : k0 < k1
      · have hd : decide (k1 ≤ k0) = false := by rw [decide_eq_false_iff_not]; omega
        have hd2 : decide ((k1 : Int) ≤ (k0 : Int)) = false := by rw [decide_eq_false_iff_not]; omega
        go_wp2_with fail
        go_roundw
        case rel => exact ⟨j + 1, by go_num, .inl (by omega), hE, fun i hi hl => HJ1.out i hi hl hh⟩
        case measure => simp [intOf]; omega
      · have hd : decide (k1 ≤ k0) = true := by rw [decide_eq_true_iff]; omega
        have hd2 : decide ((k1 : Int) ≤ (k0 : Int)) = true := by rw [decide_eq_true_iff]; omega
        go_wp2_with fail
        go_ret
        exact ⟨Z57 (HN.out hh).symm, hE⟩
    · have HR : Hid (riseB xs = true) := by
        show riseB xs = true
        unfold riseB
        rw [decide_eq_true_iff]
        exact fun i hi hl => HJ.out i (by omega) hl
      go_wp2_with fail
      go_ret
      exact ⟨Z57 HR.out.symm, hEx⟩
end Go.Proofs.Ytbfgacmfjfbooaa

/- leaf: Find, Child. -/
namespace Go.Proofs.Ytbfgacmfjfbooaa
set_option linter.unusedVariables false
set_option linter.unusedSimpArgs false
open Go.RowKit

theorem Z1w (x : Nat) (w : World) : Calls Try.prog 127 #[.int .u64 x] w fun e w' => e = .returned (.bool false) ∧ w = w' := by
  go_enter Try.func127, Try.ntmps127
  go_wp2_with fail
  go_ret
  exact ⟨rfl, rfl⟩
def cmpN (x y : Nat) : Int := if x < y then -1 else if y < x then 1 else 0
theorem Z7b (x y : Nat) (w : World) : Calls Try.prog 111 #[.int .u64 x, .int .u64 y] w fun e w' => e = .returned (.int .i64 (cmpN x y)) ∧ w = w' := by
  by_cases h1 : x < y
  · have e : cmpN x y = -1 := by unfold cmpN; rw [if_pos h1]
    rw [e]
    clear e
    go_enter Try.func111, Try.ntmps111
    go_wp2_with fail
    refine (Z1w x _).mono ?_
    rintro e w1 ⟨rfl, rfl⟩
    go_wp2_with fail
    refine (Z1w y _).mono ?_
    rintro e w1 ⟨rfl, rfl⟩
    go_wp2_with fail
    go_ret
    exact ⟨rfl, rfl⟩
  · by_cases h2 : y < x
    · have e : cmpN x y = 1 := by unfold cmpN; rw [if_neg h1, if_pos h2]
      rw [e]
      clear e
      go_enter Try.func111, Try.ntmps111
      go_wp2_with fail
      refine (Z1w x _).mono ?_
      rintro e w1 ⟨rfl, rfl⟩
      go_wp2_with fail
      refine (Z1w y _).mono ?_
      rintro e w1 ⟨rfl, rfl⟩
      go_wp2_with fail
      go_ret
      exact ⟨rfl, rfl⟩
    · have e : cmpN x y = 0 := by unfold cmpN; rw [if_neg h1, if_neg h2]
      rw [e]
      clear e
      go_enter Try.func111, Try.ntmps111
      go_wp2_with fail
      refine (Z1w x _).mono ?_
      rintro e w1 ⟨rfl, rfl⟩
      go_wp2_with fail
      refine (Z1w y _).mono ?_
      rintro e w1 ⟨rfl, rfl⟩
      go_wp2_with fail
      go_ret
      exact ⟨rfl, rfl⟩
theorem Z6e (x v y : Nat) (w : World) : Calls Try.prog 110 #[.agg #[.int .u64 x, .int .u64 v], .int .u64 y] w fun e w' => e = .returned (.int .i64 (cmpN x y)) ∧ Ext w w' := by
  have hE := Lib.hid (Ext.alloc w (.cells #[.int .u64 x, .int .u64 v] 103))
  go_enter Try.func110, Try.ntmps110
  go_wp2_with fail
  refine (Z7b x y _).mono ?_
  rintro e w1 ⟨rfl, rfl⟩
  go_wp2_with fail
  go_ret
  exact ⟨rfl, hE.out⟩

set_option maxHeartbeats 2000000 in
theorem Z7c (A : Option Addr) (len cap : Nat) (xs : List (Nat × Nat)) (w : World) (hlen : xs.length = len) (hm : len ≤ 1000000) (hrow : Row w A 2 pairC xs) (key n : Nat) (hn : n ≤ len) (hb : ∀ i, i < n → keyAt xs i < key) (ha : ∀ i, n ≤ i → i < len → key ≤ keyAt xs i) :
    Calls Try.prog 109 #[.slice A len cap, .int .u64 key, .func (.func 110) #[] #[]] w fun e w' => e = .returned (.tuple #[.int .i64 n, .bool (decide (n < len ∧ keyAt xs n = key))]) ∧ Ext w w' := by
  have HB := Lib.hid hb
  have HA := Lib.hid ha
  clear hb ha
  go_enter Try.func109, Try.ntmps109
  go_wp2_with fail
  go_loopw [9, 10] (fun i j wr => ∃ (lo hi : Nat), i = .int .i64 lo ∧ j = .int .i64 hi ∧ lo ≤ n ∧ n ≤ hi ∧ hi ≤ len ∧ Ext w wr) (fun i j _ => (intOf j).toNat - (intOf i).toNat)
  case atStart => exact ⟨0, len, rfl, rfl, by omega, hn, by omega, Ext.refl _⟩
  case round =>
    obtain ⟨lo, hi, rfl, rfl, h1, h2, h3, hEx⟩ := hrel
    by_cases hlt : lo < hi
    · obtain ⟨m, hm2⟩ : ∃ m : Nat, (lo + hi) / 2 = m := ⟨_, rfl⟩
      have hm3 : lo ≤ m ∧ m < hi := by omega
      obtain ⟨b0, o0, rfl, hlt0, q0, q1⟩ := hrow.pair_in hEx (show m < xs.length by omega)
      have hM : ((lo : Int) + hi) / 2 = (m : Int) := by omega
      have hkm : keyAt xs m = xs[m].1 := by simp [keyAt, List.getD, show m < xs.length by omega]
      obtain ⟨c, hc⟩ : ∃ c : Int, cmpN xs[m].1 key = c := ⟨_, rfl⟩
      have HF := Lib.hid (fun W => hc ▸ Z6e xs[m].1 xs[m].2 key W)
      by_cases hmn : m < n
      · have hlt := HB.out m hmn
        have hc0 : decide (c < 0) = true := by rw [decide_eq_true_iff, ← hc]; unfold cmpN; rw [if_pos (by omega)]; decide
        have hc1 : c < 0 := by simpa using hc0
        clear hc hkm hlt
        go_wp2_with fail
        refine (HF.out _).mono ?_
        rintro e w2 ⟨rfl, R2⟩
        go_wp2_with fail
        go_roundw
        case rel => exact ⟨m + 1, hi, by go_num, rfl, by omega, h2, h3, hEx.trans R2⟩
        case measure => simp [intOf]; omega
      · have hge := HA.out m (by omega) (by omega)
        have hc0 : decide (c < 0) = false := by rw [decide_eq_false_iff_not, ← hc]; unfold cmpN; rw [if_neg (by omega)]; split <;> decide
        have hc1 : ¬ c < 0 := by simpa using hc0
        clear hc hkm hge
        go_wp2_with fail
        refine (HF.out _).mono ?_
        rintro e w2 ⟨rfl, R2⟩
        go_wp2_with fail
        go_roundw
        case rel => exact ⟨lo, m, rfl, rfl, h1, by omega, by omega, hEx.trans R2⟩
        case measure => simp [intOf]; omega
    · obtain rfl : n = lo := by omega
      obtain rfl : n = hi := by omega
      by_cases hnl : n < len
      · obtain ⟨b0, o0, rfl, hlt0, q0, q1⟩ := hrow.pair_in hEx (show n < xs.length by omega)
        have hkn : keyAt xs n = xs[n].1 := by simp [keyAt, List.getD, show n < xs.length by omega]
        obtain ⟨c, hc⟩ : ∃ c : Int, cmpN xs[n].1 key = c := ⟨_, rfl⟩
        have HF := Lib.hid (fun W => hc ▸ Z6e xs[n].1 xs[n].2 key W)
        have HC := Lib.hid (show (c == 0) = decide (n < len ∧ keyAt xs n = key) by
          rw [Bool.eq_iff_iff, beq_iff_eq, decide_eq_true_iff, ← hc, hkn]
          unfold cmpN
          constructor
          · intro h
            refine ⟨hnl, ?_⟩
            split at h
            · cases h
            · split at h
              · cases h
              · omega
          · intro h
            rw [if_neg (by omega), if_neg (by omega)])
        clear hc hkn
        go_wp2_with fail
        refine (HF.out _).mono ?_
        rintro e w2 ⟨rfl, R2⟩
        go_wp2_with fail
        go_ret2
        exact ⟨by rw [← HC.out]; rfl, hEx.trans R2⟩
      · have HC := Lib.hid (show false = decide (n < len ∧ keyAt xs n = key) from (decide_eq_false (fun h => hnl h.1)).symm)
        go_wp2_with fail
        go_ret2
        exact ⟨by rw [← HC.out]; rfl, hEx⟩

theorem Row.ext {E : Type} {w w' : World} {A : Option Addr} {c : Nat} {enc : E → List Value} {xs : List E} (h : Row w A c enc xs) (hb : Ext w w') : Row w' A c enc xs := h.below hb
/-- The place that a key has. -/
structure Place (xs : List (Nat × Nat)) (key n : Nat) : Prop where
  le : n ≤ xs.length
  below : ∀ i, i < n → keyAt xs i < key
  above : ∀ i, n ≤ i → i < xs.length → key ≤ keyAt xs i
theorem Z5i (lv : Int) (A : Option Addr) (len cap : Nat) (xs : List (Nat × Nat)) (w : World) (hlen : xs.length = len) (hm : len ≤ 1000000) (hrow : Row w A 2 pairC xs) (key n : Nat) (hp : Place xs key n) :
    Calls Try.prog 89 #[.agg #[.int .i64 lv, .slice A len cap], .int .u64 key] w fun e w' => e = .returned (.tuple #[.int .i64 n, .bool (decide (n < len ∧ keyAt xs n = key))]) ∧ Ext w w' := by
  have hE := Ext.alloc w (.cells #[.int .i64 lv, .slice A len cap] 46)
  have HC := Lib.hid (Z7c A len cap xs (w.alloc (.cells #[.int .i64 lv, .slice A len cap] 46)) hlen hm (hrow.ext hE) key n (by have := hp.le; omega) hp.below (fun i h1 h2 => hp.above i h1 (by omega)))
  have HE := Lib.hid hE
  generalize decide (n < len ∧ keyAt xs n = key) = B at HC ⊢
  clear hE hp hrow
  go_enter Try.func89, Try.ntmps89
  go_wp2_with fail
  refine HC.out.mono ?_
  rintro e w2 ⟨rfl, R2⟩
  have HR := Lib.hid (HE.out.trans R2)
  clear R2 HC
  go_wp2_with fail
  go_ret2
  exact ⟨rfl, HR.out⟩
theorem child_any (lv : Int) (A : Option Addr) (len cap : Nat) (xs : List (Nat × Nat)) (w : World) (hlen : xs.length = len) (hm : len ≤ 1000000) (hrow : Row w A 2 pairC xs) (key n : Nat) (hp : Place xs key n) :
    Calls Try.prog 90 #[.agg #[.int .i64 lv, .slice A len cap], .int .u64 key] w fun e w' => e = .returned (.int .i64 (if n < len ∧ keyAt xs n = key then (n : Int) else (n : Int) - 1)) ∧ Ext w w' := by
  have hE := Ext.alloc w (.cells #[.int .i64 lv, .slice A len cap] 46)
  have HC := Lib.hid (Z5i lv A len cap xs (w.alloc (.cells #[.int .i64 lv, .slice A len cap] 46)) hlen hm (hrow.ext hE) key n hp)
  have HE := Lib.hid hE
  have hn : n ≤ 1000000 := by have := hp.le; omega
  have hi : (if n < len ∧ keyAt xs n = key then (n : Int) else (n : Int) - 1) = if decide (n < len ∧ keyAt xs n = key) = true then (n : Int) else (n : Int) - 1 := by simp only [decide_eq_true_iff]
  rw [hi]
  generalize decide (n < len ∧ keyAt xs n = key) = B at HC ⊢
  clear hE hp hrow hi
  cases B
  · go_enter Try.func90, Try.ntmps90
    go_wp2_with fail
    refine HC.out.mono ?_
    rintro e w2 ⟨rfl, R2⟩
    have HR := Lib.hid (HE.out.trans R2)
    clear R2 HC
    go_wp2_with fail
    go_ret
    exact ⟨rfl, HR.out⟩
  · go_enter Try.func90, Try.ntmps90
    go_wp2_with fail
    refine HC.out.mono ?_
    rintro e w2 ⟨rfl, R2⟩
    have HR := Lib.hid (HE.out.trans R2)
    clear R2 HC
    go_wp2_with fail
    go_ret
    exact ⟨rfl, HR.out⟩

theorem Z7p (xs : List (Nat × Nat)) (key : Nat) (h : riseB xs = true) : ∃ n, Place xs key n := by
  unfold riseB at h
  rw [decide_eq_true_iff] at h
  have hj : ∀ j, j ≤ xs.length → ∃ n, n ≤ j ∧ (∀ i, i < n → keyAt xs i < key) ∧ (∀ i, n ≤ i → i < j → key ≤ keyAt xs i) := by
    intro j
    induction j with
    | zero => exact fun _ => ⟨0, Nat.le_refl _, fun i hi => absurd hi (by omega), fun i _ hi => absurd hi (by omega)⟩
    | succ j ih =>
      intro hl
      obtain ⟨n, h1, h2, h3⟩ := ih (by omega)
      by_cases hn : n = j
      · subst hn
        by_cases hk : keyAt xs n < key
        · refine ⟨n + 1, Nat.le_refl _, fun i hi => ?_, fun i h4 h5 => absurd h5 (by omega)⟩
          by_cases e : i = n
          · subst e; exact hk
          · exact h2 i (by omega)
        · refine ⟨n, by omega, h2, fun i h4 h5 => ?_⟩
          obtain rfl : i = n := by omega
          omega
      · refine ⟨n, by omega, h2, fun i h4 h5 => ?_⟩
        by_cases e : i = j
        · subst e
          have := h (i - 1) (by omega) (by omega)
          rw [show i - 1 + 1 = i by omega] at this
          have := h3 (i - 1) (by omega) (by omega)
          omega
        · exact h3 i h4 (by omega)
  obtain ⟨n, h1, h2, h3⟩ := hj xs.length (Nat.le_refl _)
  exact ⟨n, h1, h2, h3⟩

abbrev Pr := Nat × Nat
/-- A node: its level, its pairs. -/
abbrev Nd := Nat × List Pr
def ndAt (N : List Nd) (p : Nat) : Option Nd := if p = 0 then none else N[p - 1]?
def hdk (L : List (List Pr)) : Option Nat := L.flatten.head?.map Prod.fst
def Up (ps : List Pr) : Prop := ps.Pairwise fun a b => a.1 < b.1
/-- The pairs of a node lead to subtrees, one behind the other. -/
def Kids (T : Nat → List (List Pr) → List Nat → Prop) : List Pr → List (List Pr) → List Nat → Prop
  | [], L, g => L = [] ∧ g = []
  | x :: xs, L, g => ∃ L1 g1 L2 g2, T x.2 L1 g1 ∧ hdk L1 = some x.1 ∧ Kids T xs L2 g2 ∧ L = L1 ++ L2 ∧ g = g1 ++ g2
/-- What stands in a node of a level. -/
def Body (T : Nat → List (List Pr) → List Nat → Prop) (l : Nat) (xs : List Pr) (L : List (List Pr)) (h : List Nat) : Prop :=
  if l = 0 then L = (if xs = [] then [] else [xs]) ∧ h = [] else Kids T xs L h
/-- A subtree of level l at page p: its leaves, its pages. -/
def Tr (N : List Nd) : Nat → Nat → List (List Pr) → List Nat → Prop
  | 0, p, L, g => ∃ xs h, ndAt N p = some (0, xs) ∧ xs ≠ [] ∧ xs.length ≤ 15 ∧ Body (fun _ _ _ => False) 0 xs L h ∧ g = p :: h
  | l + 1, p, L, g => ∃ xs h, ndAt N p = some (l + 1, xs) ∧ xs ≠ [] ∧ xs.length ≤ 15 ∧ Body (Tr N l) (l + 1) xs L h ∧ g = p :: h
/-- The subtrees below a level. -/
def Tb (N : List Nd) : Nat → Nat → List (List Pr) → List Nat → Prop
  | 0 => fun _ _ _ => False
  | l + 1 => Tr N l
theorem Z88 {N : List Nd} {l p : Nat} {L : List (List Pr)} {g : List Nat} : Tr N l p L g ↔ ∃ xs h, ndAt N p = some (l, xs) ∧ xs ≠ [] ∧ xs.length ≤ 15 ∧ Body (Tb N l) l xs L h ∧ g = p :: h := by
  cases l <;> rfl
theorem Z0f {T : Nat → List (List Pr) → List Nat → Prop} {xs : List Pr} {L : List (List Pr)} {h : List Nat} : Body T 0 xs L h ↔ L = (if xs = [] then [] else [xs]) ∧ h = [] := by
  unfold Body; rw [if_pos rfl]
theorem Z0i {T : Nat → List (List Pr) → List Nat → Prop} {l : Nat} {xs : List Pr} {L : List (List Pr)} {h : List Nat} : Body T (l + 1) xs L h ↔ Kids T xs L h := by
  unfold Body; rw [if_neg (by omega)]
/-! Rows of subtrees. -/
section
variable {T T' : Nat → List (List Pr) → List Nat → Prop} {A B xs : List Pr} {x : Pr} {L : List (List Pr)} {g : List Nat}
theorem Kids.mono (hT : ∀ p L g, T p L g → T' p L g) : ∀ {xs : List Pr} {L : List (List Pr)} {g : List Nat}, Kids T xs L g → Kids T' xs L g
  | [], _, _, h => h
  | _ :: _, _, _, ⟨L1, g1, L2, g2, h1, h2, h3, h4, h5⟩ => ⟨L1, g1, L2, g2, hT _ _ _ h1, h2, h3.mono hT, h4, h5⟩
theorem Kids.app : ∀ {A B : List Pr} {LA LB : List (List Pr)} {gA gB : List Nat}, Kids T A LA gA → Kids T B LB gB → Kids T (A ++ B) (LA ++ LB) (gA ++ gB)
  | [], _, _, _, _, _, ⟨rfl, rfl⟩, hB => hB
  | _ :: _, _, _, _, _, _, ⟨L1, g1, L2, g2, h1, h2, h3, rfl, rfl⟩, hB => ⟨L1, g1, L2 ++ _, g2 ++ _, h1, h2, h3.app hB, by rw [List.append_assoc], by rw [List.append_assoc]⟩
theorem Kids.parts : ∀ {A B : List Pr} {L : List (List Pr)} {g : List Nat}, Kids T (A ++ B) L g → ∃ LA gA LB gB, Kids T A LA gA ∧ Kids T B LB gB ∧ L = LA ++ LB ∧ g = gA ++ gB
  | [], _, L, g, h => ⟨[], [], L, g, ⟨rfl, rfl⟩, h, rfl, rfl⟩
  | x :: A, B, L, g, ⟨L1, g1, L2, g2, h1, h2, h3, h4, h5⟩ => by
    obtain ⟨LA, gA, LB, gB, hA, hB, rfl, rfl⟩ := h3.parts
    exact ⟨L1 ++ LA, g1 ++ gA, LB, gB, ⟨L1, g1, LA, gA, h1, h2, hA, rfl, rfl⟩, hB, by rw [h4, List.append_assoc], by rw [h5, List.append_assoc]⟩
theorem Kids.one (h : T x.2 L g) (hk : hdk L = some x.1) : Kids T [x] L g := ⟨L, g, [], [], h, hk, ⟨rfl, rfl⟩, by simp, by simp⟩
theorem Kids.of_one (h : Kids T [x] L g) : T x.2 L g ∧ hdk L = some x.1 := by
  obtain ⟨L1, g1, L2, g2, h1, h2, ⟨rfl, rfl⟩, rfl, rfl⟩ := h
  rw [List.append_nil, List.append_nil]
  exact ⟨h1, h2⟩
theorem Kids.at_ (h : Kids T (A ++ x :: B) L g) : ∃ LA gA Lx gx LB gB, Kids T A LA gA ∧ T x.2 Lx gx ∧ hdk Lx = some x.1 ∧ Kids T B LB gB ∧ L = LA ++ (Lx ++ LB) ∧ g = gA ++ (gx ++ gB) := by
  obtain ⟨LA, gA, L2, g2, hA, ⟨Lx, gx, LB, gB, h1, h2, h3, rfl, rfl⟩, rfl, rfl⟩ := h.parts
  exact ⟨LA, gA, Lx, gx, LB, gB, hA, h1, h2, h3, rfl, rfl⟩
theorem hdk_app {L1 L2 : List (List Pr)} {k : Nat} (h : hdk L1 = some k) : hdk (L1 ++ L2) = some k := by
  unfold hdk at h ⊢
  rw [List.flatten_append]
  cases e : L1.flatten with
  | nil => rw [e] at h; cases h
  | cons a r => rw [e] at h; exact h
theorem Z43 {L : List (List Pr)} {k : Nat} (h : hdk L = some k) : ∃ v r, L.flatten = (k, v) :: r := by
  unfold hdk at h
  cases e : L.flatten with
  | nil => rw [e] at h; cases h
  | cons a r =>
    rw [e] at h
    obtain ⟨a1, a2⟩ := a
    injection h with h
    have h : a1 = k := h
    subst h
    exact ⟨_, _, rfl⟩
theorem Kids.hdk (h : Kids T (x :: xs) L g) : hdk L = some x.1 := by
  obtain ⟨L1, g1, L2, g2, _, h2, _, rfl, rfl⟩ := h
  exact hdk_app h2
end
/-! More nodes. -/
theorem Z5d {N : List Nd} {p : Nat} {x : Nd} (h : ndAt N p = some x) (M : List Nd) : ndAt (N ++ M) p = some x := by
  unfold ndAt at h ⊢
  split at h
  · cases h
  · rename_i h0
    rw [if_neg h0, List.getElem?_append_left (List.getElem?_eq_some_iff.1 h).1]
    exact h
theorem Z73 {N : List Nd} {p : Nat} {x : Nd} (h : ndAt N p = some x) : 1 ≤ p ∧ p ≤ N.length := by
  unfold ndAt at h
  split at h
  · cases h
  · have := (List.getElem?_eq_some_iff.1 h).1
    omega
theorem Z26 (N : List Nd) (x : Nd) (M : List Nd) : ndAt (N ++ x :: M) (N.length + 1) = some x := by
  unfold ndAt
  rw [if_neg (by omega), Nat.add_sub_cancel, List.getElem?_append_right (Nat.le_refl _), Nat.sub_self]
  rfl
theorem Tr.mono {N : List Nd} (M : List Nd) : ∀ {l p : Nat} {L : List (List Pr)} {g : List Nat}, Tr N l p L g → Tr (N ++ M) l p L g
  | 0, _, _, _, ⟨xs, h, h1, h2, h3, h4, h5⟩ => ⟨xs, h, Z5d h1 M, h2, h3, h4, h5⟩
  | l + 1, _, _, _, ⟨xs, h, h1, h2, h3, h4, h5⟩ => ⟨xs, h, Z5d h1 M, h2, h3, Z0i.2 ((Z0i.1 h4).mono fun _ _ _ h => Tr.mono M h), h5⟩
theorem Tb.mono {N : List Nd} (M : List Nd) {l p : Nat} {L : List (List Pr)} {g : List Nat} (h : Tb N l p L g) : Tb (N ++ M) l p L g := by
  cases l with
  | zero => exact h
  | succ l => exact Tr.mono M h
theorem Body.mono {N : List Nd} (M : List Nd) {l : Nat} {xs : List Pr} {L : List (List Pr)} {h : List Nat} (hb : Body (Tb N l) l xs L h) : Body (Tb (N ++ M) l) l xs L h := by
  cases l with
  | zero => exact Z0f.2 (Z0f.1 hb)
  | succ l => exact Z0i.2 ((Z0i.1 hb).mono fun _ _ _ h => Tr.mono M h)
/-! Subtrees aren't empty; their pages are there. -/
theorem Kids.all {T : Nat → List (List Pr) → List Nat → Prop} {P : List Pr → Prop} (hT : ∀ p L g, T p L g → ∀ c ∈ L, P c) : ∀ {xs : List Pr} {L : List (List Pr)} {g : List Nat}, Kids T xs L g → ∀ c ∈ L, P c
  | [], _, _, ⟨rfl, _⟩, c, hc => by cases hc
  | _ :: _, _, _, ⟨L1, g1, L2, g2, h1, h2, h3, rfl, rfl⟩, c, hc => by
    rcases List.mem_append.1 hc with hc | hc
    · exact hT _ _ _ h1 c hc
    · exact h3.all hT c hc
theorem Kids.pages {T : Nat → List (List Pr) → List Nat → Prop} {P : Nat → Prop} (hT : ∀ p L g, T p L g → ∀ c ∈ g, P c) : ∀ {xs : List Pr} {L : List (List Pr)} {g : List Nat}, Kids T xs L g → ∀ c ∈ g, P c
  | [], _, _, ⟨_, rfl⟩, c, hc => by cases hc
  | _ :: _, _, _, ⟨L1, g1, L2, g2, h1, h2, h3, rfl, rfl⟩, c, hc => by
    rcases List.mem_append.1 hc with hc | hc
    · exact hT _ _ _ h1 c hc
    · exact h3.pages hT c hc
theorem Tr.leaves {N : List Nd} : ∀ {l p : Nat} {L : List (List Pr)} {g : List Nat}, Tr N l p L g → ∀ c ∈ L, c ≠ [] ∧ c.length ≤ 15
  | 0, _, _, _, ⟨xs, h, h1, h2, h3, h4, h5⟩, c, hc => by
    obtain ⟨rfl, _⟩ := Z0f.1 h4
    rw [if_neg h2] at hc
    obtain rfl : c = xs := by simpa using hc
    exact ⟨h2, h3⟩
  | l + 1, _, _, _, ⟨xs, h, h1, h2, h3, h4, h5⟩, c, hc => (Z0i.1 h4).all (P := fun c => c ≠ [] ∧ c.length ≤ 15) (fun _ _ _ h => Tr.leaves h) c hc
theorem Tr.pages {N : List Nd} : ∀ {l p : Nat} {L : List (List Pr)} {g : List Nat}, Tr N l p L g → ∀ q ∈ g, 1 ≤ q ∧ q ≤ N.length
  | 0, _, _, _, ⟨xs, h, h1, h2, h3, h4, h5⟩, q, hq => by
    obtain ⟨_, rfl⟩ := Z0f.1 h4
    rw [h5] at hq
    rw [List.mem_singleton.1 hq]
    exact Z73 h1
  | l + 1, _, _, _, ⟨xs, h, h1, h2, h3, h4, h5⟩, q, hq => by
    rw [h5] at hq
    rcases List.mem_cons.1 hq with rfl | hq
    · exact Z73 h1
    · exact (Z0i.1 h4).pages (P := fun q => 1 ≤ q ∧ q ≤ N.length) (fun _ _ _ h => Tr.pages h) q hq
theorem Tb.pages {N : List Nd} {l p : Nat} {L : List (List Pr)} {g : List Nat} (h : Tb N l p L g) : ∀ q ∈ g, 1 ≤ q ∧ q ≤ N.length := by
  cases l with
  | zero => cases h
  | succ l => exact Tr.pages h
theorem Body.pages {N : List Nd} {l : Nat} {xs : List Pr} {L : List (List Pr)} {h : List Nat} (hb : Body (Tb N l) l xs L h) : ∀ q ∈ h, 1 ≤ q ∧ q ≤ N.length := by
  cases l with
  | zero => obtain ⟨_, rfl⟩ := Z0f.1 hb; intro q hq; cases hq
  | succ l => exact (Z0i.1 hb).pages (P := fun q => 1 ≤ q ∧ q ≤ N.length) fun _ _ _ h => Tr.pages h
theorem Tr.one {N : List Nd} {l p : Nat} {L : List (List Pr)} {g : List Nat} (h : Tr N l p L g) : ∃ r, g = p :: r := by
  obtain ⟨xs, r, _, _, _, _, e⟩ := Z88.1 h
  exact ⟨r, e⟩
theorem Kids.ne {T : Nat → List (List Pr) → List Nat → Prop} {xs : List Pr} {L : List (List Pr)} {g : List Nat} (h : Kids T xs L g) (hx : xs ≠ []) : L.flatten ≠ [] := by
  cases xs with
  | nil => exact absurd rfl hx
  | cons x xs =>
    obtain ⟨v, r, e⟩ := Z43 h.hdk
    rw [e]
    exact List.cons_ne_nil _ _
theorem Tr.ne {N : List Nd} {l p : Nat} {L : List (List Pr)} {g : List Nat} (h : Tr N l p L g) : L.flatten ≠ [] := by
  cases l with
  | zero =>
    obtain ⟨xs, r, _, h2, _, h4, _⟩ := h
    obtain ⟨rfl, _⟩ := Z0f.1 h4
    rw [if_neg h2]
    simpa using h2
  | succ l =>
    obtain ⟨xs, r, _, h2, _, h4, _⟩ := h
    exact (Z0i.1 h4).ne h2
theorem Kids.len {T : Nat → List (List Pr) → List Nat → Prop} : ∀ {xs : List Pr} {L : List (List Pr)} {g : List Nat}, Kids T xs L g → xs.length ≤ L.length
  | [], _, _, _ => Nat.zero_le _
  | _ :: _, _, _, ⟨L1, g1, L2, g2, h1, h2, h3, rfl, rfl⟩ => by
    have := h3.len
    have h0 : L1 ≠ [] := fun e => by subst e; cases h2
    have := List.length_pos_iff.2 h0
    simp only [List.length_cons, List.length_append]
    omega
/-! Rising pairs. -/
theorem Up.app {a b : List Pr} (h : Up (a ++ b)) : Up a ∧ Up b ∧ ∀ x ∈ a, ∀ y ∈ b, x.1 < y.1 := List.pairwise_append.1 h
theorem Kids.up {T : Nat → List (List Pr) → List Nat → Prop} : ∀ {xs : List Pr} {L : List (List Pr)} {g : List Nat}, Kids T xs L g → Up L.flatten → Up xs ∧ ∀ x ∈ xs, ∃ v, (x.1, v) ∈ L.flatten
  | [], _, _, _, _ => ⟨List.Pairwise.nil, fun _ h => by cases h⟩
  | x :: xs, _, _, ⟨L1, g1, L2, g2, h1, h2, h3, rfl, rfl⟩, hu => by
    rw [List.flatten_append] at hu ⊢
    obtain ⟨hu1, hu2, hu3⟩ := hu.app
    obtain ⟨hk1, hk2⟩ := h3.up hu2
    obtain ⟨v, r, e⟩ := Z43 h2
    refine ⟨List.Pairwise.cons (fun y hy => ?_) hk1, fun y hy => ?_⟩
    · obtain ⟨u, hu⟩ := hk2 y hy
      exact hu3 (x.1, v) (by rw [e]; simp) (y.1, u) hu
    · rcases List.mem_cons.1 hy with rfl | hy
      · exact ⟨v, List.mem_append_left _ (by rw [e]; simp)⟩
      · obtain ⟨u, hu⟩ := hk2 y hy
        exact ⟨u, List.mem_append_right _ hu⟩
theorem up_at {xs : List Pr} (h : Up xs) {i j : Nat} (hij : i < j) (hj : j < xs.length) : keyAt xs i < keyAt xs j := by
  have := List.pairwise_iff_getElem.1 h i j (by omega) hj hij
  simpa [keyAt, List.getD, hj, show i < xs.length by omega] using this
theorem Z6p {xs : List Pr} (h : Up xs) : riseB xs = true := by
  unfold riseB
  rw [decide_eq_true_iff]
  exact fun i h1 h2 => up_at h (by omega) h2
/-! Insertion, deletion, look-up by filters. -/
def insP (x : Pr) (ps : List Pr) : List Pr := ps.filter (fun y => decide (y.1 < x.1)) ++ x :: ps.filter (fun y => decide (x.1 < y.1))
def delP (k : Nat) (ps : List Pr) : List Pr := ps.filter fun y => decide (y.1 ≠ k)
theorem Z45 {α : Type} {p : α → Bool} {l : List α} (h : ∀ x ∈ l, p x = false) : l.filter p = [] := List.filter_eq_nil_iff.2 fun x hx => by rw [h x hx]; decide
theorem Z4p {α : Type} {p : α → Bool} {l : List α} (h : ∀ x ∈ l, p x = true) : l.filter p = l := List.filter_eq_self.2 h
theorem Z5g {x : Pr} {a b c : List Pr} (ha : ∀ y ∈ a, y.1 < x.1) (hc : ∀ y ∈ c, x.1 < y.1) : insP x (a ++ (b ++ c)) = a ++ (insP x b ++ c) := by
  unfold insP
  simp only [List.filter_append]
  rw [Z4p (l := a) (fun y hy => decide_eq_true (ha y hy)), Z45 (l := c) (p := fun y => decide (y.1 < x.1)) (fun y hy => decide_eq_false (by have := hc y hy; omega)),
    Z45 (l := a) (p := fun y => decide (x.1 < y.1)) (fun y hy => decide_eq_false (by have := ha y hy; omega)), Z4p (l := c) (fun y hy => decide_eq_true (hc y hy))]
  simp
theorem insP_up {x : Pr} {ps : List Pr} (h : Up ps) : Up (insP x ps) := by
  unfold insP Up
  rw [List.pairwise_append]
  refine ⟨h.filter _, List.pairwise_cons.2 ⟨fun y hy => ?_, h.filter _⟩, fun y hy z hz => ?_⟩
  · simpa using (List.mem_filter.1 hy).2
  · have h1 : y.1 < x.1 := by simpa using (List.mem_filter.1 hy).2
    rcases List.mem_cons.1 hz with rfl | hz
    · exact h1
    · have h2 : x.1 < z.1 := by simpa using (List.mem_filter.1 hz).2
      omega
theorem Z77 {x : Pr} {ps : List Pr} : insP x ps ≠ [] := by unfold insP; simp
theorem mem_insP {x y : Pr} {ps : List Pr} (h : y ∈ insP x ps) : y = x ∨ y ∈ ps := by
  unfold insP at h
  rcases List.mem_append.1 h with h | h
  · exact .inr (List.mem_filter.1 h).1
  · rcases List.mem_cons.1 h with rfl | h
    · exact .inl rfl
    · exact .inr (List.mem_filter.1 h).1
/-! A place in a node. -/
theorem take_lt {xs : List Pr} {k n : Nat} (hp : Place xs k n) : ∀ y ∈ xs.take n, y.1 < k := by
  intro y hy
  obtain ⟨i, hi, rfl⟩ := List.mem_iff_getElem.1 hy
  rw [List.length_take] at hi
  have := hp.below i (by omega)
  simpa [keyAt, List.getD, show i < xs.length by omega] using this
theorem drop_ge {xs : List Pr} {k n : Nat} (hp : Place xs k n) : ∀ y ∈ xs.drop n, k ≤ y.1 := by
  intro y hy
  obtain ⟨i, hi, rfl⟩ := List.mem_iff_getElem.1 hy
  rw [List.length_drop] at hi
  have := hp.above (n + i) (by omega) (by omega)
  simpa [keyAt, List.getD, show n + i < xs.length by omega] using this
/-- The pair of a key, if it is there, stands at its place. -/
theorem Z61 {xs : List Pr} {k n : Nat} (hu : Up xs) (hp : Place xs k n) (h : n < xs.length ∧ keyAt xs n = k) : ∃ v B, xs = xs.take n ++ (k, v) :: B ∧ (∀ y ∈ B, k < y.1) ∧ B = xs.drop (n + 1) ∧ xs[n]? = some (k, v) := by
  obtain ⟨hn, hk⟩ := h
  have e := List.drop_eq_getElem_cons hn
  obtain ⟨a, v, hx⟩ : ∃ a v, xs[n] = (a, v) := ⟨_, _, rfl⟩
  have ha : a = k := by rw [← hk]; simp [keyAt, List.getD, hn, hx]
  subst ha
  refine ⟨v, xs.drop (n + 1), ?_, ?_, rfl, by rw [List.getElem?_eq_getElem hn, hx]⟩
  · rw [← hx, ← e, List.take_append_drop]
  · have h2 : Up (xs.drop n) := hu.sublist (List.drop_sublist n xs)
    rw [e, hx] at h2
    exact (List.pairwise_cons.1 h2).1
theorem Z7q {xs : List Pr} {k n : Nat} (hu : Up xs) (hp : Place xs k n) (h : ¬ (n < xs.length ∧ keyAt xs n = k)) : ∀ y ∈ xs.drop n, k < y.1 := by
  intro y hy
  have h1 := drop_ge hp y hy
  by_cases hn : n < xs.length
  · have hk : k ≠ keyAt xs n := fun e => h ⟨hn, e.symm⟩
    have h3 := hp.above n (Nat.le_refl _) hn
    obtain ⟨i, hi, rfl⟩ := List.mem_iff_getElem.1 hy
    rw [List.length_drop] at hi
    have e : (xs.drop n)[i].1 = keyAt xs (n + i) := by simp [keyAt, List.getD, show n + i < xs.length by omega]
    rw [e]
    by_cases h0 : i = 0
    · subst h0; rw [Nat.add_zero]; omega
    · have := up_at hu (i := n) (j := n + i) (by omega) (by omega)
      omega
  · rw [List.drop_of_length_le (by omega)] at hy; cases hy
theorem insP_yes {xs : List Pr} {x : Pr} {n : Nat} (hu : Up xs) (hp : Place xs x.1 n) (h : n < xs.length ∧ keyAt xs n = x.1) : insP x xs = xs.set n x := by
  obtain ⟨v, B, e, hB, -, -⟩ := Z61 hu hp h
  have hl : (xs.take n).length = n := by rw [List.length_take]; omega
  have e2 : insP x xs = xs.take n ++ x :: B := by
    conv => lhs; rw [e]
    have h1 := Z5g (x := x) (a := xs.take n) (b := [(x.1, v)]) (c := B) (take_lt hp) hB
    rw [List.singleton_append] at h1
    rw [h1]
    unfold insP
    simp
  rw [e2]
  conv => rhs; rw [e]
  rw [List.set_append_right _ _ (by omega), hl, Nat.sub_self]
  rfl
theorem insP_no {xs : List Pr} {x : Pr} {n : Nat} (hu : Up xs) (hp : Place xs x.1 n) (h : ¬ (n < xs.length ∧ keyAt xs n = x.1)) : insP x xs = xs.take n ++ x :: xs.drop n := by
  have h1 := Z5g (x := x) (a := xs.take n) (b := []) (c := xs.drop n) (take_lt hp) (Z7q hu hp h)
  rw [List.nil_append, List.take_append_drop] at h1
  rw [h1]
  unfold insP
  simp
/-- The place of the pair by which a key is looked for. -/
def kidN (xs : List Pr) (k n : Nat) : Nat := if n < xs.length ∧ keyAt xs n = k then n else n - 1
theorem kid_at {xs : List Pr} {k n : Nat} (hu : Up xs) (hne : xs ≠ []) (hp : Place xs k n) : ∃ A y B, xs = A ++ y :: B ∧ A.length = kidN xs k n ∧ (A ≠ [] → y.1 ≤ k) ∧ (∀ z ∈ B, k < z.1) := by
  have hle := hp.le
  have h0 := List.length_pos_iff.2 hne
  have hi : kidN xs k n < xs.length := by unfold kidN; split <;> omega
  refine ⟨xs.take (kidN xs k n), xs[kidN xs k n], xs.drop (kidN xs k n + 1), ?_, ?_, ?_, ?_⟩
  · rw [← List.drop_eq_getElem_cons hi, List.take_append_drop]
  · rw [List.length_take]; omega
  · intro hA
    have hA : kidN xs k n ≠ 0 := fun e => hA (by rw [e]; rfl)
    have e : xs[kidN xs k n].1 = keyAt xs (kidN xs k n) := by simp [keyAt, List.getD, hi]
    rw [e]
    unfold kidN at hA ⊢
    split
    · rename_i h; omega
    · rename_i h
      rw [if_neg h] at hA
      exact Nat.le_of_lt (hp.below _ (by omega))
  · intro z hz
    by_cases h : n < xs.length ∧ keyAt xs n = k
    · obtain ⟨v, B, e, hB, hB2, hx⟩ := Z61 hu hp h
      have : kidN xs k n = n := by unfold kidN; rw [if_pos h]
      rw [this, ← hB2] at hz
      exact hB z hz
    · have h1 := Z7q hu hp h
      have : kidN xs k n = n - 1 := by unfold kidN; rw [if_neg h]
      rw [this] at hz
      by_cases hn : n = 0
      · subst hn
        exact h1 z (by rw [List.drop_zero]; exact List.mem_of_mem_drop hz)
      · rw [show n - 1 + 1 = n by omega] at hz
        exact h1 z hz

/-- A node's pairs as nodes: none, one, or two. -/
def parts (xs : List Pr) : List (List Pr) := if xs = [] then [] else if xs.length ≤ 15 then [xs] else [xs.take 8, xs.drop 8]
/-- The pairs that lead to new nodes, behind so many. -/
def outs : List (List Pr) → Nat → List Pr
  | [], _ => []
  | c :: r, n => (keyAt c 0, n + 1) :: outs r (n + 1)
/-- So many new nodes of a level. -/
abbrev newN (l : Nat) (cs : List (List Pr)) : List Nd := cs.map fun c => (l, c)
theorem Z5c : ∀ (cs : List (List Pr)) (n : Nat), (outs cs n).length = cs.length
  | [], _ => rfl
  | _ :: r, n => by rw [outs, List.length_cons, Z5c r, List.length_cons]
theorem Z2d (xs : List Pr) : (parts xs).length ≤ 2 := by
  unfold parts
  split
  · simp
  · split <;> simp
theorem Z4i (xs : List Pr) : (parts xs).flatten = xs := by
  unfold parts
  split
  · rename_i h; rw [h]; rfl
  · split
    · simp
    · simp
theorem parts_ne {xs : List Pr} : ∀ c ∈ parts xs, c ≠ [] := by
  intro c hc
  unfold parts at hc
  split at hc
  · cases hc
  · rename_i h0
    split at hc
    · rw [List.mem_singleton.1 hc]; exact h0
    · rename_i h1
      rcases List.mem_cons.1 hc with rfl | hc
      · intro e; have := congrArg List.length e; rw [List.length_take, List.length_nil] at this; omega
      · rw [List.mem_singleton.1 hc]; intro e; have := congrArg List.length e; rw [List.length_drop, List.length_nil] at this; omega
theorem Z2y {xs : List Pr} (h : xs ≠ []) (hl : xs.length ≤ 15) : parts xs = [xs] := by unfold parts; rw [if_neg h, if_pos hl]
theorem Z2x {xs : List Pr} (hl : xs.length = 16) : parts xs = [xs.take 8, xs.drop 8] := by
  unfold parts
  rw [if_neg (fun e => by rw [e] at hl; cases hl), if_neg (by omega)]
theorem Z62 : parts [] = [] := rfl
theorem Body.hdk {N : List Nd} {l : Nat} {xs : List Pr} {L : List (List Pr)} {h : List Nat} (hb : Body (Tb N l) l xs L h) (hx : xs ≠ []) : hdk L = some (keyAt xs 0) := by
  cases l with
  | zero =>
    obtain ⟨rfl, _⟩ := Z0f.1 hb
    rw [if_neg hx]
    unfold Go.Proofs.Ytbfgacmfjfbooaa.hdk
    cases xs with
    | nil => exact absurd rfl hx
    | cons x r => simp [keyAt]
  | succ l =>
    cases xs with
    | nil => exact absurd rfl hx
    | cons x r => exact (Z0i.1 hb).hdk
/-- A node of what stands in it. -/
theorem Z2l {N M : List Nd} {l p : Nat} {xs : List Pr} {L : List (List Pr)} {h : List Nat} (hb : Body (Tb N l) l xs L h) (hx : xs ≠ []) (h15 : xs.length ≤ 15) (hp : ndAt (N ++ M) p = some (l, xs)) : Tr (N ++ M) l p L (p :: h) :=
  Z88.2 ⟨xs, h, hp, hx, h15, hb.mono M, rfl⟩
/-- What is added of a node's pairs leads to what they led to. -/
theorem Z4u {N : List Nd} {l : Nat} {xs : List Pr} {L : List (List Pr)} {h : List Nat} (hb : Body (Tb N l) l xs L h) (h16 : xs.length ≤ 16) (hn : h.Nodup) :
    ∃ g, Kids (Tr (N ++ newN l (parts xs)) l) (outs (parts xs) N.length) (if l = 0 then parts xs else L) g ∧ g.Nodup ∧ (∀ q ∈ g, q ∈ h ∨ N.length < q) := by
  have hpg := hb.pages
  by_cases hx : xs = []
  · subst hx
    rw [Z62]
    refine ⟨[], ⟨?_, rfl⟩, List.nodup_nil, fun q hq => (by cases hq)⟩
    cases l with
    | zero => rfl
    | succ l =>
      rw [if_neg (by omega)]
      exact (Z0i.1 hb).1
  by_cases h15 : xs.length ≤ 15
  · rw [Z2y hx h15]
    have hT := Z2l (M := [(l, xs)]) hb hx h15 (Z26 N (l, xs) [])
    have hL : (if l = 0 then [xs] else L) = L := by
      cases l with
      | zero => rw [(Z0f.1 hb).1, if_neg hx]; rfl
      | succ l => rw [if_neg (by omega)]
    rw [hL]
    refine ⟨_, Kids.one (x := (keyAt xs 0, N.length + 1)) hT (hb.hdk hx), List.nodup_cons.2 ⟨fun hm => ?_, hn⟩, fun q hq => ?_⟩
    · have := (hpg _ hm).2
      omega
    · rcases List.mem_cons.1 hq with rfl | hq
      · exact .inr (by omega)
      · exact .inl hq
  · have h8 : xs.length = 16 := by omega
    rw [Z2x h8]
    have hA : xs.take 8 ≠ [] := fun e => by have := congrArg List.length e; rw [List.length_take, List.length_nil] at this; omega
    have hB : xs.drop 8 ≠ [] := fun e => by have := congrArg List.length e; rw [List.length_drop, List.length_nil] at this; omega
    have hAl : (xs.take 8).length ≤ 15 := by rw [List.length_take]; omega
    have hBl : (xs.drop 8).length ≤ 15 := by rw [List.length_drop]; omega
    have e2 : N ++ [(l, xs.take 8), (l, xs.drop 8)] = (N ++ [(l, xs.take 8)]) ++ [(l, xs.drop 8)] := by simp
    have hp2 : ndAt (N ++ [(l, xs.take 8), (l, xs.drop 8)]) (N.length + 1 + 1) = some (l, xs.drop 8) := by
      rw [e2]
      have := Z26 (N ++ [(l, xs.take 8)]) (l, xs.drop 8) []
      rwa [List.length_append, List.length_singleton] at this
    have hp1 := Z26 N (l, xs.take 8) [(l, xs.drop 8)]
    cases l with
    | zero =>
      obtain ⟨_, rfl⟩ := Z0f.1 hb
      have hb1 : Body (Tb N 0) 0 (xs.take 8) [xs.take 8] [] := Z0f.2 ⟨by rw [if_neg hA], rfl⟩
      have hb2 : Body (Tb N 0) 0 (xs.drop 8) [xs.drop 8] [] := Z0f.2 ⟨by rw [if_neg hB], rfl⟩
      refine ⟨[N.length + 1, N.length + 1 + 1], ⟨[xs.take 8], [N.length + 1], [xs.drop 8], [N.length + 1 + 1], Z2l hb1 hA hAl hp1, hb1.hdk hA, ⟨[xs.drop 8], [N.length + 1 + 1], [], [], Z2l hb2 hB hBl hp2, hb2.hdk hB, ⟨rfl, rfl⟩, rfl, rfl⟩, rfl, rfl⟩, by simp, fun q hq => .inr ?_⟩
      simp only [List.mem_cons, List.not_mem_nil, or_false] at hq
      omega
    | succ l =>
      have hk := Z0i.1 hb
      rw [← List.take_append_drop 8 xs] at hk
      obtain ⟨LA, gA, LB, gB, kA, kB, rfl, rfl⟩ := hk.parts
      have hb1 : Body (Tb N (l + 1)) (l + 1) (xs.take 8) LA gA := Z0i.2 kA
      have hb2 : Body (Tb N (l + 1)) (l + 1) (xs.drop 8) LB gB := Z0i.2 kB
      rw [if_neg (by omega)]
      refine ⟨(N.length + 1) :: gA ++ ((N.length + 1 + 1) :: gB ++ []), ⟨LA, (N.length + 1) :: gA, LB, (N.length + 1 + 1) :: gB ++ [], Z2l hb1 hA hAl hp1, hb1.hdk hA, ⟨LB, (N.length + 1 + 1) :: gB, [], [], Z2l hb2 hB hBl hp2, hb2.hdk hB, ⟨rfl, rfl⟩, by simp, rfl⟩, rfl, rfl⟩, ?_, fun q hq => ?_⟩
      · rw [List.append_nil]
        obtain ⟨n1, n2, n3⟩ := List.nodup_append.1 hn
        have hq : ∀ q ∈ gA ++ gB, q ≤ N.length := fun q hq => (hpg q hq).2
        rw [List.cons_append, List.nodup_cons, List.nodup_append, List.nodup_cons]
        refine ⟨fun hm => ?_, n1, ⟨fun hm => ?_, n2⟩, fun a ha b hb' => ?_⟩
        · rcases List.mem_append.1 hm with hm | hm
          · have := hq _ (List.mem_append_left _ hm); omega
          · rcases List.mem_cons.1 hm with hm | hm
            · omega
            · have := hq _ (List.mem_append_right _ hm); omega
        · have := hq _ (List.mem_append_right _ hm); omega
        · rcases List.mem_cons.1 hb' with rfl | hb'
          · have := hq _ (List.mem_append_left _ ha); omega
          · exact n3 a ha b hb'
      · simp only [List.append_nil, List.cons_append, List.mem_cons, List.mem_append] at hq ⊢
        rcases hq with rfl | hq | rfl | hq
        · exact .inr (by omega)
        · exact .inl (.inl hq)
        · exact .inr (by omega)
        · exact .inl (.inr hq)
/-! A put. -/
/-- One leaf has one pair more, or another one. -/
def SplitL (x : Pr) (L L' : List (List Pr)) : Prop := ∃ A c B, L = A ++ c :: B ∧ L' = A ++ (parts (insP x c) ++ B) ∧ (insP x c).length ≤ 16
theorem Z7z {x : Pr} {ps : List Pr} : (insP x ps).length ≤ ps.length + 1 := by
  unfold insP
  rw [List.length_append, List.length_cons]
  have h1 : (ps.filter (fun y => decide (y.1 < x.1))).length + (ps.filter (fun y => decide (x.1 < y.1))).length ≤ ps.length := by
    induction ps with
    | nil => simp
    | cons y r ih =>
      simp only [List.filter_cons, List.length_cons]
      split <;> split
      · rename_i h1 h2; simp at h1 h2; omega
      · simp only [List.length_cons]; omega
      · simp only [List.length_cons]; omega
      · omega
  omega
structure PutR (N N' : List Nd) (l p : Nat) (x : Pr) (L : List (List Pr)) (g : List Nat) (es : List Pr) : Prop where
  app : ∃ M, N' = N ++ M ∧ M.length ≤ 2 * (l + 1)
  one : es.length = 1 ∨ es.length = 2
  kids : ∃ L' g', Kids (Tr N' l) es L' g' ∧ g'.Nodup ∧ (∀ q ∈ g', q ∈ g ∨ N.length < q) ∧ SplitL x L L' ∧ L'.flatten = insP x L.flatten ∧ (es.length = 2 → 0 < l → 16 ≤ L'.length) ∧ N'.length + L.length ≤ N.length + L'.length + 1 + (if l = 0 then 0 else 2 * (l - 1) + es.length)
  root : 0 < l → ∃ xs, ndAt N p = some (l, xs) ∧ (es.length = 1 → ∃ k q xs', es = [(k, q)] ∧ ndAt N' q = some (l, xs') ∧ xs.length ≤ xs'.length)
theorem Z64 {N : List Nd} {l n : Nat} {xs : List Pr} (hx : xs ≠ []) (h16 : xs.length ≤ 16) (hn : n ≤ xs.length) :
    ((outs (parts xs) N.length).length = 1 ∨ (outs (parts xs) N.length).length = 2) ∧ ((outs (parts xs) N.length).length = 2 → xs.length = 16) ∧
    ((outs (parts xs) N.length).length = 1 → ∃ k q xs', outs (parts xs) N.length = [(k, q)] ∧ ndAt (N ++ newN l (parts xs)) q = some (l, xs') ∧ n ≤ xs'.length) := by
  by_cases h15 : xs.length ≤ 15
  · rw [Z2y hx h15]
    exact ⟨.inl rfl, fun h => (by cases h), fun _ => ⟨_, _, xs, rfl, Z26 N (l, xs) [], hn⟩⟩
  · rw [Z2x (by omega)]
    exact ⟨.inr rfl, fun _ => by omega, fun h => (by cases h)⟩
theorem put_leaf {N : List Nd} {p : Nat} {x : Pr} {L : List (List Pr)} {g : List Nat} {xs : List Pr} (hT : Tr N 0 p L g) (hp : ndAt N p = some (0, xs)) :
    PutR N (N ++ newN 0 (parts (insP x xs))) 0 p x L g (outs (parts (insP x xs)) N.length) ∧ (insP x xs).length ≤ 16 ∧ L.flatten = xs := by
  obtain ⟨xs', h, h1, h2, h3, h4, rfl⟩ := hT
  rw [hp] at h1
  injection h1 with h1
  injection h1 with _ h1
  subst h1
  obtain ⟨rfl, rfl⟩ := Z0f.1 h4
  rw [if_neg h2]
  have hl := Z7z (x := x) (ps := xs)
  have h16 : (insP x xs).length ≤ 16 := by omega
  have hb : Body (Tb N 0) 0 (insP x xs) [insP x xs] [] := Z0f.2 ⟨by rw [if_neg Z77], rfl⟩
  obtain ⟨g, k1, k2, k3⟩ := Z4u hb h16 List.nodup_nil
  rw [if_pos rfl] at k1
  obtain ⟨r1, r2, r3⟩ := Z64 (N := N) (l := 0) (n := 0) Z77 h16 (Nat.zero_le _)
  exact ⟨⟨⟨_, rfl, by rw [List.length_map]; have := Z2d (insP x xs); omega⟩, r1, ⟨_, g, k1, k2, fun q hq => (k3 q hq).elim (fun h => by cases h) .inr, ⟨[], xs, [], rfl, by simp, h16⟩, by rw [Z4i]; simp, (fun _ h => (by cases h)), (by rw [if_pos rfl, List.length_append, List.length_map]; show _ + _ + 1 ≤ _; omega)⟩, fun h => (by cases h)⟩, h16, by simp⟩
theorem tr_at {N : List Nd} {l p : Nat} {L : List (List Pr)} {g : List Nat} (hT : Tr N l p L g) {l' : Nat} {xs : List Pr} (hp : ndAt N p = some (l', xs)) : l' = l ∧ xs ≠ [] ∧ xs.length ≤ 15 ∧ ∃ h, Body (Tb N l) l xs L h ∧ g = p :: h := by
  obtain ⟨xs', h, h1, h2, h3, h4, h5⟩ := Z88.1 hT
  rw [hp] at h1
  injection h1 with h1
  injection h1 with h0 h1
  subst h0 h1
  exact ⟨rfl, h2, h3, h, h4, h5⟩
/-- Which child a key is looked for in: all ahead is less, all behind is greater. -/
theorem kid_split {N : List Nd} {l p k n : Nat} {L : List (List Pr)} {g : List Nat} {xs : List Pr} (hT : Tr N (l + 1) p L g) (hu : Up L.flatten) (hp : ndAt N p = some (l + 1, xs)) (hpl : Place xs k n) :
    ∃ A y B LA gA Lx gx LB gB, xs = A ++ y :: B ∧ A.length = kidN xs k n ∧ Kids (Tr N l) A LA gA ∧ Tr N l y.2 Lx gx ∧ Kids (Tr N l) B LB gB ∧ L = LA ++ (Lx ++ LB) ∧ g = p :: (gA ++ (gx ++ gB)) ∧ (∀ z ∈ LA.flatten, z.1 < k) ∧ (∀ z ∈ LB.flatten, k < z.1) := by
  obtain ⟨_, hx, h15, h, hb, rfl⟩ := tr_at hT hp
  have hk := Z0i.1 hb
  obtain ⟨A, y, B, e, hA, h1, h2⟩ := kid_at (hk.up hu).1 hx hpl
  subst e
  obtain ⟨LA, gA, Lx, gx, LB, gB, kA, kx, kh, kB, rfl, rfl⟩ := hk.at_
  refine ⟨A, y, B, LA, gA, Lx, gx, LB, gB, rfl, hA, kA, kx, kB, rfl, rfl, fun z hz => ?_, fun z hz => ?_⟩
  · have hA0 : A ≠ [] := fun e => by subst e; obtain ⟨rfl, _⟩ := kA; cases hz
    have := h1 hA0
    obtain ⟨v, r, e⟩ := Z43 kh
    rw [List.flatten_append, List.flatten_append] at hu
    have := hu.app.2.2 z hz (y.1, v) (by rw [e]; simp)
    omega
  · have hB0 : B ≠ [] := fun e => by subst e; obtain ⟨rfl, _⟩ := kB; cases hz
    obtain ⟨b, B', rfl⟩ := List.exists_cons_of_ne_nil hB0
    have h3 := h2 b (by simp)
    obtain ⟨v, r, e⟩ := Z43 kB.hdk
    rw [List.flatten_append, List.flatten_append] at hu
    have hu2 := hu.app.2.1.app.2.1
    rw [e] at hu2 hz
    rcases List.mem_cons.1 hz with rfl | hz
    · exact h3
    · have := (List.pairwise_cons.1 hu2).1 z hz
      omega
theorem put_node {N N1 : List Nd} {l p n : Nat} {x : Pr} {L Lx LA LB : List (List Pr)} {g gx gA gB : List Nat} {A B es : List Pr} {y : Pr} (hp : ndAt N p = some (l + 1, A ++ y :: B)) (h15 : (A ++ y :: B).length ≤ 15)
    (kA : Kids (Tr N l) A LA gA) (kB : Kids (Tr N l) B LB gB) (hL : L = LA ++ (Lx ++ LB)) (hg : g = p :: (gA ++ (gx ++ gB))) (hgn : g.Nodup) (hgl : ∀ q ∈ g, q ≤ N.length) (hA : ∀ z ∈ LA.flatten, z.1 < x.1) (hB : ∀ z ∈ LB.flatten, x.1 < z.1) (hr : PutR N N1 l y.2 x Lx gx es) :
    PutR N (N1 ++ newN (l + 1) (parts (A ++ (es ++ B)))) (l + 1) p x L g (outs (parts (A ++ (es ++ B))) N1.length) ∧ (A ++ (es ++ B)).length ≤ 16 ∧ A ++ (es ++ B) ≠ [] := by
  subst hL hg
  obtain ⟨⟨M, rfl, hM⟩, h1, ⟨L', g', k1, k2, k3, ⟨A1, c, B1, s1, s2, s3⟩, k5, k6, k7⟩, -⟩ := hr
  have hes : es ≠ [] := fun e => by subst e; rcases h1 with h1 | h1 <;> cases h1
  have h16 : (A ++ (es ++ B)).length ≤ 16 := by simp only [List.length_append, List.length_cons] at h15 ⊢; omega
  have hne : A ++ (es ++ B) ≠ [] := by simp [hes]
  have hK : Kids (Tr (N ++ M) l) (A ++ (es ++ B)) (LA ++ (L' ++ LB)) (gA ++ (g' ++ gB)) := (kA.mono fun _ _ _ h => h.mono M).app (k1.app (kB.mono fun _ _ _ h => h.mono M))
  have hgn' := (List.nodup_cons.1 hgn).2
  have hgl' : ∀ q ∈ gA ++ (gx ++ gB), q ≤ N.length := fun q hq => hgl q (List.mem_cons_of_mem _ hq)
  have hnd : (gA ++ (g' ++ gB)).Nodup := by
    obtain ⟨n1, n2, n3⟩ := List.nodup_append.1 hgn'
    obtain ⟨n4, n5, n6⟩ := List.nodup_append.1 n2
    rw [List.nodup_append, List.nodup_append]
    refine ⟨n1, ⟨k2, n5, fun a ha b hb => ?_⟩, fun a ha b hb => ?_⟩
    · rcases k3 a ha with h | h
      · exact n6 a h b hb
      · have := hgl' b (by simp [hb]); omega
    · rcases List.mem_append.1 hb with hb | hb
      · rcases k3 b hb with h | h
        · exact n3 a ha b (by simp [h])
        · have := hgl' a (by simp [ha]); omega
      · exact n3 a ha b (by simp [hb])
  obtain ⟨g2, a1, a2, a3⟩ := Z4u (N := N ++ M) (l := l + 1) (Z0i.2 hK) h16 hnd
  rw [if_neg (by omega)] at a1
  obtain ⟨r1, r2, r3⟩ := Z64 (N := N ++ M) (l := l + 1) (n := (A ++ y :: B).length) hne h16 (by simp only [List.length_append, List.length_cons]; omega)
  refine ⟨⟨⟨M ++ newN (l + 1) (parts (A ++ (es ++ B))), by rw [List.append_assoc], ?_⟩, r1, ⟨_, g2, a1, a2, fun q hq => ?_, ⟨LA ++ A1, c, B1 ++ LB, by rw [s1]; simp, by rw [s2]; simp, s3⟩, ?_, (fun h2 _ => ?_), ?_⟩, fun _ => ⟨_, hp, r3⟩⟩, h16, hne⟩
  · rw [List.length_append, List.length_map]
    have := Z2d (A ++ (es ++ B))
    omega
  · rcases a3 q hq with h | h
    · rcases List.mem_append.1 h with h | h
      · exact .inl (by simp [h])
      · rcases List.mem_append.1 h with h | h
        · rcases k3 q h with h | h
          · exact .inl (by simp [h])
          · exact .inr h
        · exact .inl (by simp [h])
    · rw [List.length_append] at h
      exact .inr (by omega)
  · rw [List.flatten_append, List.flatten_append, List.flatten_append, List.flatten_append, k5, Z5g hA hB]
  · have h3 := r2 h2
    have h4 := hK.len
    omega
  · rw [if_neg (Nat.succ_ne_zero l), Z5c]
    simp only [List.length_append, List.length_map] at k7 ⊢
    have h8 : (if l = 0 then 0 else 2 * (l - 1) + es.length) ≤ 2 * l := by split <;> omega
    omega
/-! A drop. -/
/-- One leaf lacks a pair; or it is gone. -/
def DelL (k : Nat) (L L' : List (List Pr)) : Prop := ∃ A c B, L = A ++ c :: B ∧ L' = A ++ ((if delP k c = [] then [] else [delP k c]) ++ B)
structure DelR (N N' : List Nd) (l k : Nat) (L : List (List Pr)) (g : List Nat) (xs' : List Pr) : Prop where
  app : ∃ M, N' = N ++ M ∧ M.length ≤ l
  len : xs'.length ≤ 15
  body : ∃ L' h', Body (Tb N' l) l xs' L' h' ∧ h'.Nodup ∧ (∀ q ∈ h', q ∈ g ∨ N.length < q) ∧ DelL k L L' ∧ L'.flatten = delP k L.flatten
theorem delP_len {k : Nat} {ps : List Pr} : (delP k ps).length ≤ ps.length := List.length_filter_le _ _
theorem drop_leaf {N : List Nd} {p k : Nat} {L : List (List Pr)} {g : List Nat} {xs : List Pr} (hT : Tr N 0 p L g) (hp : ndAt N p = some (0, xs)) : DelR N N 0 k L g (delP k xs) ∧ L.flatten = xs := by
  obtain ⟨_, hx, h15, h, hb, rfl⟩ := tr_at hT hp
  obtain ⟨rfl, rfl⟩ := Z0f.1 hb
  rw [if_neg hx]
  have := delP_len (k := k) (ps := xs)
  refine ⟨⟨⟨[], by simp, Nat.zero_le _⟩, by omega, ⟨_, [], Z0f.2 ⟨rfl, rfl⟩, List.nodup_nil, fun q hq => (by cases hq), ⟨[], xs, [], rfl, by simp⟩, ?_⟩⟩, by simp⟩
  split
  · rename_i h; simp [h]
  · simp
/-! How great: each leaf counts eight, and what it has beyond eight. -/
def phi (L : List (List Pr)) : Nat := (L.map fun c => c.length - 8).sum + 8 * L.length
theorem Z5b (A B : List (List Pr)) : phi (A ++ B) = phi A + phi B := by
  unfold phi
  rw [List.map_append, List.sum_append, List.length_append]
  omega
theorem Z6w (c : List Pr) : phi [c] = (c.length - 8) + 8 := by simp [phi]
theorem Z5a (c : List Pr) (L : List (List Pr)) : phi (c :: L) = (c.length - 8) + 8 + phi L := by
  rw [show c :: L = [c] ++ L from rfl, Z5b, Z6w]
theorem phi_split {x : Pr} {L L' : List (List Pr)} (h : SplitL x L L') : phi L' ≤ phi L + 1 := by
  obtain ⟨A, c, B, rfl, rfl, h16⟩ := h
  have hl := Z7z (x := x) (ps := c)
  rw [Z5b, Z5b, Z5b, Z5a]
  by_cases h15 : (insP x c).length ≤ 15
  · rw [Z2y Z77 h15, Z6w]; omega
  · rw [Z2x (by omega), Z5a, Z6w, List.length_take, List.length_drop]; omega
/-! Trees. -/
/-- A tree of at most so many levels above its leaves. -/
structure RT (m : Nat) (N : List Nd) (root : Nat) (L : List (List Pr)) (g : List Nat) : Prop where
  rt : (root = 0 ∧ L = [] ∧ g = []) ∨ ∃ l, l ≤ m ∧ Tr N l root L g ∧ (0 < l → ∃ xs, ndAt N root = some (l, xs) ∧ 2 ≤ xs.length)
  up : Up L.flatten
  nod : g.Nodup
  wf : ∀ y ∈ L.flatten, y.1 < 18446744073709551616 ∧ y.2 < 18446744073709551616
theorem RT.mono {m : Nat} {N : List Nd} {root : Nat} {L : List (List Pr)} {g : List Nat} (h : RT m N root L g) (M : List Nd) : RT m (N ++ M) root L g := by
  refine ⟨?_, h.up, h.nod, h.wf⟩
  rcases h.rt with h | ⟨l, h1, h2, h3⟩
  · exact .inl h
  · exact .inr ⟨l, h1, h2.mono M, fun h0 => by obtain ⟨xs, h4, h5⟩ := h3 h0; exact ⟨xs, Z5d h4 M, h5⟩⟩
theorem rt_zero (m : Nat) (N : List Nd) : RT m N 0 [] [] := ⟨.inl ⟨rfl, rfl, rfl⟩, List.Pairwise.nil, List.nodup_nil, fun _ h => (by cases h)⟩
theorem wf_ins {x : Pr} {ps : List Pr} (h : ∀ y ∈ ps, y.1 < 18446744073709551616 ∧ y.2 < 18446744073709551616) (hx : x.1 < 18446744073709551616 ∧ x.2 < 18446744073709551616) : ∀ y ∈ insP x ps, y.1 < 18446744073709551616 ∧ y.2 < 18446744073709551616 := by
  intro y hy
  rcases mem_insP hy with rfl | hy
  · exact hx
  · exact h y hy
open Go.RowKit Go.Maps

abbrev flatP (ps : List Pr) : List Value := ps.flatMap pairC
theorem Z0t (ps : List Pr) : (flatP ps).length = ps.length * 2 := by
  induction ps with
  | nil => rfl
  | cons x ps ih => rw [flatP, List.flatMap_cons, List.length_append, ih, List.length_cons]; show 2 + _ = _; omega
theorem Z1m (ps : List Pr) : ∀ u ∈ flatP ps, u.oneCell' = true := by
  intro u hu
  obtain ⟨x, _, hx⟩ := List.mem_flatMap.1 hu
  simp [pairC] at hx
  rcases hx with rfl | rfl <;> rfl
/-- A row of pairs as a thing. -/
abbrev tPs (v : Value) (ps : List Pr) : Thing := tRow 103 2 v ps.length (flatP ps)
def tPool (vs : List Value) (N : List Nd) : Thing where
  foot := vs.flatMap fun v => v.ownBlock.toList
  holds := fun w => vs.length = N.length ∧ ∀ i v nd, vs[i]? = some v → N[i]? = some nd → (tPs v nd.2).holds w
  keep := fun w w' hs h ⟨h1, h2⟩ => ⟨h1, fun i v nd hv hn => (tPs v nd.2).keep w w' hs (fun j hj => h j (List.mem_flatMap.2 ⟨v, List.mem_of_getElem? hv, hj⟩)) (h2 i v nd hv hn)⟩
  lt := fun w ⟨h1, h2⟩ i hi => by
    obtain ⟨v, hv, hj⟩ := List.mem_flatMap.1 hi
    obtain ⟨k, hk⟩ := List.getElem?_of_mem hv
    have hkl := (List.getElem?_eq_some_iff.1 hk).1
    exact (tPs v (N[k]'(by omega)).2).lt w (h2 k v _ hk (List.getElem?_eq_getElem (by omega))) i hj
section
variable {H : Nat} {A w w' : World} {R : List Thing} {X Y Z : Thing}
/-- Two things in one. -/
theorem OwnT.merge (h : OwnT H A (X :: Y :: R) w) (hz : Z.holds w) (hf : ∀ i ∈ Z.foot, i ∈ X.foot ∨ i ∈ Y.foot) : OwnT H A (Z :: R) w := by
  have hd := List.pairwise_cons.1 h.diff
  have hd2 := List.pairwise_cons.1 hd.2
  refine ⟨h.below, h.size, ⟨hz, h.all.2.2⟩, fun x hx i hi => ?_, List.Pairwise.cons (fun y hy i hi hj => ?_) hd2.2⟩
  · rcases List.mem_cons.1 hx with rfl | hx
    · rcases hf i hi with h1 | h1
      · exact h.high X (by simp) i h1
      · exact h.high Y (by simp) i h1
    · exact h.high x (by simp [hx]) i hi
  · rcases hf i hi with h1 | h1
    · exact hd.1 y (by simp [hy]) i h1 hj
    · exact hd2.1 y hy i h1 hj
theorem OwnT.poolAdd {vs : List Value} {N : List Nd} {v : Value} {l : Nat} {ps : List Pr} (h : OwnT H A (tPs v ps :: tPool vs N :: R) w) : OwnT H A (tPool (vs ++ [v]) (N ++ [(l, ps)]) :: R) w := by
  obtain ⟨h1, h2, _⟩ := h.all
  refine h.merge ⟨by rw [List.length_append, List.length_append, h2.1]; rfl, fun i u nd hu hn => ?_⟩ (fun i hi => ?_)
  · by_cases hi : i < N.length
    · rw [List.getElem?_append_left (by rw [h2.1]; exact hi)] at hu
      rw [List.getElem?_append_left hi] at hn
      exact h2.2 i u nd hu hn
    · rw [List.getElem?_append_right (by rw [h2.1]; omega)] at hu
      rw [List.getElem?_append_right (by omega)] at hn
      have e1 : i - N.length = 0 := by
        have := (List.getElem?_eq_some_iff.1 hn).1
        simpa using this
      rw [e1] at hn
      rw [h2.1, e1] at hu
      obtain rfl : v = u := by simpa using hu
      obtain rfl : (l, ps) = nd := by simpa using hn
      exact h1
  · show i ∈ (tPs v ps).foot ∨ _
    have hi : i ∈ (vs ++ [v]).flatMap fun v => v.ownBlock.toList := hi
    rw [List.flatMap_append] at hi
    rcases List.mem_append.1 hi with hi | hi
    · exact .inr hi
    · exact .inl (by simpa [tRow] using hi)
theorem pool_nil (h : OwnT H A R w) : OwnT H A (tPool [] [] :: R) w :=
  h.cons (Ext.refl w) _ ⟨rfl, fun i v nd hv => by simp at hv⟩ (fun i hi => by cases hi)
/-- A row of pairs: nil, or in a block. -/
def SlB (B : Option Addr) (cap : Nat) (ps : List Pr) : Prop := (B = none ∧ ps = [] ∧ cap = 0) ∨ ∃ g off, B = some ⟨g, off, none⟩
theorem Z0x {v : Value} {ps : List Pr} (h : (tPs v ps).holds w) : ∃ B cap, v = .slice B ps.length cap ∧ ps.length ≤ cap ∧ cap ≤ maxLen ∧ Row w B 2 pairC ps ∧ SlB B cap ps := by
  obtain ⟨B, cap, e, h1, h2, _, h4⟩ := Z23 (enc := pairC) (X := ps) (fun _ => rfl) (by decide) h
  refine ⟨B, cap, e, h1, h2, h4, ?_⟩
  rcases h.2 with ⟨e1, e2⟩ | ⟨g, cap', cur, e1, _⟩
  · rw [e] at e1
    injection e1 with e1 _ e3
    exact .inl ⟨e1, List.eq_nil_of_length_eq_zero e2, e3⟩
  · rw [e] at e1
    injection e1 with e1
    exact .inr ⟨g, 0, e1⟩
end

/-- The nodes' cells: their levels, their rows. -/
def leafV : List Value → List Nd → List Value
  | v :: vs, nd :: N => .int .i64 (nd.1 : Nat) :: v :: leafV vs N
  | _, _ => []
theorem Z6a : ∀ {vs : List Value} {N : List Nd} {v : Value} {nd : Nd}, vs.length = N.length → leafV (vs ++ [v]) (N ++ [nd]) = leafV vs N ++ [.int .i64 (nd.1 : Nat), v]
  | [], [], _, _, _ => rfl
  | _ :: vs, _ :: N, v, nd, h => by
    have := Z6a (vs := vs) (N := N) (v := v) (nd := nd) (by simpa using h)
    simp only [List.cons_append, leafV, this]
  | [], _ :: _, _, _, h => by cases h
  | _ :: _, [], _, _, h => by cases h
theorem Z7w : ∀ {vs : List Value} {N : List Nd} {i : Nat} {nd : Nd}, vs.length = N.length → N[i]? = some nd → ∃ v, vs[i]? = some v ∧ (leafV vs N)[i * 2]? = some (.int .i64 (nd.1 : Nat)) ∧ (leafV vs N)[i * 2 + 1]? = some v
  | [], [], _, _, _, h => by simp at h
  | v :: _, n :: _, 0, nd, _, h => by
    obtain rfl : n = nd := by simpa using h
    exact ⟨v, rfl, rfl, rfl⟩
  | _ :: vs, _ :: N, i + 1, nd, hl, h => by
    obtain ⟨v, h1, h2, h3⟩ := Z7w (vs := vs) (N := N) (i := i) (nd := nd) (by simpa using hl) (by simpa using h)
    refine ⟨v, by simpa using h1, ?_, ?_⟩
    · rw [show (i + 1) * 2 = i * 2 + 1 + 1 by omega]; simpa [leafV] using h2
    · rw [show (i + 1) * 2 + 1 = i * 2 + 1 + 1 + 1 by omega]; simpa [leafV] using h3
  | [], _ :: _, _, _, h, _ => by cases h
  | _ :: _, [], _, _, h, _ => by cases h
/-- A shelf: its block, its nodes, their rows. -/
abbrev shT (sb : Nat) (room : Int) (B : Option Addr) (cap : Nat) (vs : List Value) (N : List Nd) (R : List Thing) : List Thing :=
  tBlk sb 49 #[.slice B N.length cap, .int .i64 room] :: tRow 46 2 (.slice B N.length cap) N.length (leafV vs N) :: tPool vs N :: R
section
variable {H : Nat} {A w w' : World} {R : List Thing} {sb cap : Nat} {room : Int} {B : Option Addr} {vs : List Value} {N : List Nd}
theorem sh_len (h : OwnT H A (shT sb room B cap vs N R) w) : vs.length = N.length := h.all.2.2.1.1
/-- The node of a page, in memory. -/
theorem sh_node (h : OwnT H A (shT sb room B cap vs N R) w) {i : Nat} {nd : Nd} (hi : N[i]? = some nd) : ∃ g v, B = some ⟨g, 0, none⟩ ∧ (tPs v nd.2).holds w ∧ w.cell? ⟨g, i * 2, none⟩ = some (.int .i64 (nd.1 : Nat)) ∧ w.cell? ⟨g, i * 2 + 1, none⟩ = some v := by
  obtain ⟨h1, h2, h3, _⟩ := h.all
  obtain ⟨v, hv, c0, c1⟩ := Z7w h3.1 hi
  have hil := (List.getElem?_eq_some_iff.1 hi).1
  obtain ⟨g, cap', cur, e, hg, _, _, hcs, htk⟩ := Z18 h2 (by omega)
  injection e with e1 _ e3
  subst e1 e3
  refine ⟨g, v, rfl, h3.2 i v nd hv hi, ?_, ?_⟩
  · rw [hg.cell, ← c0, ← htk, List.getElem?_take_of_lt (by omega)]; simp
  · rw [hg.cell, ← c1, ← htk, List.getElem?_take_of_lt (by omega)]; simp
theorem sh_nil {R : List Thing} (h : OwnT H A (tBlk sb 49 #[.slice none 0 0, .int .i64 room] :: R) w) : OwnT H A (shT sb room none 0 [] [] R) w :=
  ((pool_nil h).nilRow 46 2).perm (((List.Perm.swap _ _ _).cons _).trans (List.Perm.swap _ _ _))
end
end Go.Proofs.Ytbfgacmfjfbooaa

/- rows of pairs: what is appended, Clone (printed by XTrC0.gen.py). -/
namespace Go.Proofs.Ytbfgacmfjfbooaa
attribute [local simp] BigFrame.eval_const BigFrame.eval_global BigFrame.eval_func
set_option linter.unusedVariables false
set_option linter.unusedSimpArgs false
open Go.RowKit Go.Maps

theorem elemPr : ElemI Try.prog 44 103 2 16 := ⟨Try.underlying44, by
 have h : (Try.prog.info? 103).map (fun i => (i.zero, i.size, i.bytes)) = some (some (.agg #[.int .u64 0, .int .u64 0]), 2, 16) := by kernel_rfl
 obtain ⟨i, h1, h2, h3, h4⟩ := info_parts h
 exact ⟨i, _, h1, h2, h3, h4, rfl⟩⟩
theorem Z34 {P : Program} {H : Nat} {A w : World} {T t : TypeId} {k n m c bytes : Nat} {v : Value} {xs news : List Value} {G : List Thing} {p : Addr} (O : OwnT H A (tRow T k v n xs :: G) w) (E : ElemI P t T k bytes) (hk : 0 < k) (hlen : news.length = m * k) (hn : ∀ j u, news[j]? = some u → w.cell? (p.add j) = some u) (h1 : ∀ u ∈ news, u.oneCell' = true) (h63 : n + m ≤ maxLen) (hbytes : (n + m) * bytes ≤ 140737488355328) :
 ∃ v' w', (∀ ty, (Builtin.append_ #[t, t] ty #[v, .slice (some p) m c]).run P w = .ok v' w') ∧ OwnT H A (tRow T k v' (n + m) (xs ++ news) :: G) w' := by
 obtain ⟨i, z, hi, hz, hs, hby, hzs⟩ := E.info
 obtain ⟨v', w', hrun, h2, h3, h4⟩ := Z1o (P := P) w t t T i z k bytes E.ht hi hz hs hby hzs hk v n xs O.r0 p m c news hlen hn h1 h63 hbytes
 exact ⟨v', w', fun _ => hrun, O.row h2 h3 h4⟩
/-- An append in order. -/
theorem Z3d {P : Program} {H : Nat} {A w : World} {T t : TypeId} {k n g bytes : Nat} {v : Value} {xs news : List Value} {G : List Thing} (O : OwnT H A (tBlk g T news.toArray :: tRow T k v n xs :: G) w) (E : ElemI P t T k bytes) (hk : 0 < k) (hlen : news.length = k) (h1 : ∀ u ∈ news, u.oneCell' = true) (h63 : n + 1 ≤ maxLen) (hbytes : (n + 1) * bytes ≤ 140737488355328) :
 ∃ gr cap w', (∀ ty, (Builtin.append_ #[t, t] ty #[v, .slice (some ⟨g, 0, none⟩) 1 1]).run P w = .ok (.slice (some ⟨gr, 0, none⟩) (n + 1) cap) w') ∧ OwnT H A (tRow T k (.slice (some ⟨gr, 0, none⟩) (n + 1) cap) (n + 1) (xs ++ news) :: G) w' := by
 obtain ⟨i, z, hi, hz, hs, hby, hzs⟩ := E.info
 obtain ⟨r, w', hrun, h3⟩ := (O.perm (.swap _ _ _)).appendOne (P := P) t i z bytes E.ht hi hz hs hby hzs hk g T news O.b0 hlen h1 h63 hbytes
 obtain ⟨gr, cap, rfl⟩ := OwnT.slice0 h3 (by omega)
 exact ⟨gr, cap, w', hrun, h3.pick01⟩
theorem Z27 {w : World} {g off : Nat} {ps : List Pr} (h : Row w (some ⟨g, off, none⟩) 2 pairC ps) : ∀ j u, (flatP ps)[j]? = some u → w.cell? ((⟨g, off, none⟩ : Addr).add j) = some u := by
 intro j u hu; have hadd : (⟨g, off, none⟩ : Addr).add j = ⟨g, off + j, none⟩ := by unfold Addr.add; split <;> simp_all
 rw [hadd]
 have hjl := (List.getElem?_eq_some_iff.1 hu).1
 rw [Z0t] at hjl
 obtain ⟨x, hx⟩ : ∃ x, ps[j / 2]? = some x := ⟨_, List.getElem?_eq_getElem (by omega)⟩
 obtain ⟨b, o, e, _, hc⟩ := h (j / 2) x hx
 injection e with e
 injection e with e1 e2
 subst e1 e2
 have h2 : (pairC x)[j % 2]? = some u := by
  have hm : j % 2 < 2 := Nat.mod_lt _ (by omega)
  rcases (show j % 2 = 0 ∨ j % 2 = 1 by omega) with hm | hm
  · have h3 := Z33 (enc := pairC) (c := 2) (fun _ => rfl) ps (j / 2) x 0 (.int .u64 x.1) hx rfl
    rw [show j / 2 * 2 + 0 = j by omega] at h3
    rw [hm, ← hu]; exact h3.symm ▸ rfl
  · have h3 := Z33 (enc := pairC) (c := 2) (fun _ => rfl) ps (j / 2) x 1 (.int .u64 x.2) hx rfl
    rw [show j / 2 * 2 + 1 = j by omega] at h3
    rw [hm, ← hu]; exact h3.symm ▸ rfl
 have := hc (j % 2) u h2
 rwa [show off + j / 2 * 2 + j % 2 = off + j by omega] at this
theorem OwnT.asRowE {g k : Nat} {T : TypeId} {H : Nat} {A w : World} {L : List Thing} (h : OwnT H A (tBlk g T #[] :: L) w) : OwnT H A (tRow T k (.slice (some ⟨g, 0, none⟩) 0 0) 0 [] :: L) w :=
 h.call (F := []) (Chg.refl [] w) (by simp) (tRow T k (.slice (some ⟨g, 0, none⟩) 0 0) 0 []) (Z3x h.b0 (Nat.le_refl _) (by decide) (by simp) (by simp)) (fun i hi => .inl (by simpa [tRow, tBlk, Value.ownBlock] using hi))
theorem eq_nil (w : World) : (binOp .eql 44 (.slice none 0 0) (.slice none 0 0)).run Try.prog w = .ok (.bool true) w := by kernel_rfl
theorem eq_some (g off n cap : Nat) (w : World) : (binOp .eql 44 (.slice (some ⟨g, off, none⟩) n cap) (.slice none 0 0)).run Try.prog w = .ok (.bool false) w := by kernel_rfl
theorem cellB {W0 w : World} (hb : Below W0.heap.size W0 w) {b o : Nat} {v : Value} (h : W0.cell? ⟨b, o, none⟩ = some v) : w.cell? ⟨b, o, none⟩ = some v := by
 have hlt : b < W0.heap.size := by
  rcases Nat.lt_or_ge b W0.heap.size with h1 | h1
  · exact h1
  · simp [World.cell?, Array.getElem?_eq_none h1] at h
 rw [← h]
 exact hb.cell (p := ⟨b, o, none⟩) hlt

theorem clone_nil (W0 : World) : Calls Try.prog 150 #[.slice none 0 0] W0 fun e w' => ∃ v', e = .returned v' ∧ w'.ownsRow W0.heap.size 103 2 v' 0 (flatP []) ∧ Ext W0 w' := by
 have O := OwnT.start W0
 refine Z0a Try.func150 rfl 8 rfl (by rfl) ?_
 intro a1 k hargs; have e0 : a1.eval (.tmp 0) = .slice none 0 0 := hargs 0 _ rfl
 clear hargs; refine wp_seq ?_; refine wp_region_lit ?_
 have hE := Env.refl a1 [2]; refine sd 2 hE k (Z01 rfl rfl) ?_; intro a2 hE e2 kp; refine wpList_nil ?_; replace e0 := hE.g e0; replace k := k.env hE; clear hE e2; refine Z00 (wp_seq ?_); refine wp_seq ?_; refine wp_region_lit ?_
 have hE := Env.refl a2 [3, 4]; refine zm 3 hE k e0 ?_; intro a3 hE e3 kp; apply Z03 4 hE k rfl rfl rfl rfl; case h =>
  simp [go_sem, ↓IntWalk.iteOmega, ev e3, eq_nil]
  with_reducible rfl
 intro a4 hE e4 kp; refine wpList_nil ?_; replace e0 := hE.g e0; replace k := k.env hE; clear hE; refine Z00 ?_; refine Z0h e4 rfl ?_
 refine wp_seq ?_; refine wp_region_lit ?_
 have hE := Env.refl a4 [2]; refine sd 2 hE k (Z01 rfl rfl) ?_; intro a5 hE e2 kp; refine wpList_nil ?_; replace k := k.env hE; clear hE e0 e4; refine Z00 ?_; refine wp_ret ?_
 refine Z0o ?_
 refine Z0v rfl k e2 ?_
 exact ⟨_, rfl, (OwnT.nilRow O 103 2).rowBase, O.below⟩
set_option maxRecDepth 100000 in
set_option maxHeartbeats 4000000 in
theorem clone_some (g off cap n : Nat) (ps : List Pr) (W0 : World) (hl : ps.length = n) (hrow : Row W0 (some ⟨g, off, none⟩) 2 pairC ps) (hn : n ≤ 1000000) : Calls Try.prog 150 #[.slice (some ⟨g, off, none⟩) n cap] W0 fun e w' => ∃ v', e = .returned v' ∧ w'.ownsRow W0.heap.size 103 2 v' n (flatP ps) ∧ Ext W0 w' := by
 have O := OwnT.start W0
 refine Z0a Try.func150 rfl 8 rfl (by rfl) ?_
 intro a1 k hargs; have e0 : a1.eval (.tmp 0) = .slice (some ⟨g, off, none⟩) n cap := hargs 0 _ rfl
 clear hargs; refine wp_seq ?_; refine wp_region_lit ?_
 have hE := Env.refl a1 [2]; refine sd 2 hE k (Z01 rfl rfl) ?_; intro a2 hE e2 kp; refine wpList_nil ?_; replace e0 := hE.g e0; replace k := k.env hE; clear hE e2; refine Z00 (wp_seq ?_); refine wp_seq ?_; refine wp_region_lit ?_
 have hE := Env.refl a2 [3, 4]; refine zm 3 hE k e0 ?_; intro a3 hE e3 kp; apply Z03 4 hE k rfl rfl rfl rfl; case h =>
  simp [go_sem, ↓IntWalk.iteOmega, ev e3, eq_some]
  with_reducible rfl
 intro a4 hE e4 kp; refine wpList_nil ?_; replace e0 := hE.g e0; replace k := k.env hE; clear hE; refine Z00 ?_; refine Z06 e4 rfl ?_
 refine wp_skip ?_; refine Z00 (wp_seq ?_); refine wp_region_lit ?_
 have hE := Env.refl a4 [5, 6, 7, 2]; refine Z1n (m := 0) (c := 0) O (cs := #[]) (t := 103) 5 hE k rfl (by rfl) (by rfl) rfl (by simp [go_sem, ↓IntWalk.iteOmega]) ?_
 clear O; intro g0 a5 w6 O hE e5 kp; refine zm 6 hE k e0 ?_; intro a7 hE e6 kp; replace e5 := kt kp e5; obtain ⟨v2, w2, hrun, O2⟩ := Z34 (m := n) (c := cap) (OwnT.asRowE (k := 2) O) elemPr (by decide) (by rw [Z0t, hl]) (Z27 (hrow.below O.below)) (Z1m ps) (by unfold maxLen; omega) (by omega)
 refine Z0m rfl _ _ _ _ rfl _ _ e5 e6 (hrun _) ?_
 replace O := O2
 clear O2 hrun; refine put_F 7 hE k (by rfl) (by rfl) ?_
 intro a8 hE e7 kp; refine sd 2 hE k (Z01 rfl e7) ?_; intro a9 hE e2 kp; refine wpList_nil ?_; replace k := k.env hE; clear hE e0 e4; refine Z00 ?_; refine wp_ret ?_
 refine Z0v rfl k e2 ?_
 exact ⟨_, rfl, by have h := O.rowBase; rwa [Nat.zero_add, List.nil_append] at h, O.below⟩
/-- A row's clone. -/
theorem Z6g {H : Nat} {A0 : World} {R : List Thing} {B : Option Addr} {cap n : Nat} (ps : List Pr) (w : World) (O : OwnT H A0 R w) (hl : ps.length = n) (hrow : Row w B 2 pairC ps) (hB : SlB B cap ps) (hn : n ≤ 1000000) :
 Calls Try.prog 150 #[.slice B n cap] w fun e w' => ∃ v', e = .returned v' ∧ OwnT H A0 (tPs v' ps :: R) w' ∧ Ext w w' := by
 subst hl
 rcases hB with ⟨rfl, rfl, rfl⟩ | ⟨g, off, rfl⟩
 · refine (clone_nil w).mono ?_
   rintro e w' ⟨v', rfl, h1, h2⟩
   exact ⟨v', rfl, O.newRow h2 h1, h2⟩
 · refine (clone_some g off cap _ ps w rfl hrow hn).mono ?_
   rintro e w' ⟨v', rfl, h1, h2⟩
   exact ⟨v', rfl, O.newRow h2 h1, h2⟩

end Go.Proofs.Ytbfgacmfjfbooaa

/- leaf: Good. -/
namespace Go.Proofs.Ytbfgacmfjfbooaa
set_option linter.unusedVariables false
set_option linter.unusedSimpArgs false
open Go.RowKit

def farB (v : Nat) : Bool := decide (v < 1) || decide (512 ≤ v)
theorem far_any (k v : Nat) (w : World) : Calls Try.prog 125 #[.agg #[.int .u64 k, .int .u64 v]] w fun e w' => e = .returned (.bool (farB v)) ∧ Ext w w' := by
  have hE := Lib.hid (Ext.alloc w (.cells #[.int .u64 k, .int .u64 v] 103))
  by_cases h1 : v < 1
  · have e : farB v = true := by unfold farB; simp [h1]
    rw [e]
    obtain rfl : v = 0 := by omega
    clear e
    go_enter Try.func125, Try.ntmps125
    go_wp2_with fail
    go_ret
    exact ⟨rfl, hE.out⟩
  · have h1d : decide (v < 1) = false := by simpa using h1
    have h1i : decide ((v : Int) < 1) = false := by rw [decide_eq_false_iff_not]; omega
    have h1z : ¬ v = 0 := by omega
    by_cases h2 : 512 ≤ v
    · have e : farB v = true := by unfold farB; rw [Bool.or_eq_true, decide_eq_true_iff, decide_eq_true_iff]; exact .inr h2
      rw [e]
      have h2i : decide ((512 : Int) ≤ (v : Int)) = true := by rw [decide_eq_true_iff]; omega
      have h2d : decide (512 ≤ v) = true := by rw [decide_eq_true_iff]; omega
      clear e
      go_enter Try.func125, Try.ntmps125
      go_wp2_with fail
      go_ret
      exact ⟨rfl, hE.out⟩
    · have e : farB v = false := by unfold farB; rw [Bool.or_eq_false_iff, decide_eq_false_iff_not, decide_eq_false_iff_not]; exact ⟨h1, h2⟩
      rw [e]
      have h2i : decide ((512 : Int) ≤ (v : Int)) = false := by rw [decide_eq_false_iff_not]; omega
      have h2d : decide (512 ≤ v) = false := by rw [decide_eq_false_iff_not]; omega
      clear e
      go_enter Try.func125, Try.ntmps125
      go_wp2_with fail
      go_ret
      exact ⟨rfl, hE.out⟩
set_option maxHeartbeats 1000000 in
theorem index_any (A : Option Addr) (len cap : Nat) (xs : List (Nat × Nat)) (w : World) (hlen : xs.length = len) (hm : len ≤ 1000000) (hrow : Row w A 2 pairC xs) :
    Calls Try.prog 131 #[.slice A len cap, .func (.func 125) #[] #[]] w fun e w' => ∃ r : Int, e = .returned (.int .i64 r) ∧ decide (0 ≤ r) = xs.any (fun x => farB x.2) ∧ Ext w w' := by
  go_enter Try.func131, Try.ntmps131
  go_wp2_with fail
  go_loopw [8] (fun i wr => ∃ j : Nat, i = .int .i64 j ∧ j ≤ len ∧ Ext w wr ∧ Hid ((xs.take j).any (fun x => farB x.2) = false)) (fun i _ => len - (intOf i).toNat)
  case atStart => exact ⟨0, rfl, by omega, Ext.refl _, by simp [Hid]⟩
  case round =>
    obtain ⟨j, rfl, hj, hEx, HJ⟩ := hrel
    by_cases hlt : j < len
    · have hjx : j < xs.length := by omega
      obtain ⟨b0, o0, rfl, hlt0, q0, q1⟩ := hrow.pair_in hEx hjx
      have HF := Lib.hid (fun W => far_any xs[j].1 xs[j].2 W)
      have htk : (xs.take (j + 1)).any (fun x => farB x.2) = ((xs.take j).any (fun x => farB x.2) || farB xs[j].2) := by
        rw [List.take_succ_eq_append_getElem hjx, List.any_append]
        simp only [List.any_cons, List.any_nil, Bool.or_false]
      rw [HJ.out, Bool.false_or] at htk
      have hin : farB xs[j].2 = true → xs.any (fun x => farB x.2) = true := fun h => List.any_eq_true.2 ⟨_, List.getElem_mem hjx, h⟩
      generalize farB xs[j].2 = B at HF htk hin
      have HTK := Lib.hid htk
      have HIN := Lib.hid hin
      clear htk hin
      cases B
      · go_wp2_with fail
        refine (HF.out _).mono ?_
        rintro e w2 ⟨rfl, R2⟩
        go_wp2_with fail
        go_roundw
        case rel => exact ⟨j + 1, by go_num, by omega, hEx.trans R2, HTK.out⟩
        case measure => simp [intOf]; omega
      · go_wp2_with fail
        refine (HF.out _).mono ?_
        rintro e w2 ⟨rfl, R2⟩
        go_wp2_with fail
        go_ret
        exact ⟨(j : Int), rfl, by rw [HIN.out (by trivial), decide_eq_true_iff]; omega, hEx.trans R2⟩
    · have HA : Hid (xs.any (fun x => farB x.2) = false) := by
        have := HJ.out
        rwa [List.take_of_length_le (by omega)] at this
      go_wp2_with fail
      go_ret
      exact ⟨-1, rfl, by rw [HA.out]; decide, hEx⟩
theorem Z6f (A : Option Addr) (len cap : Nat) (xs : List (Nat × Nat)) (w : World) (hlen : xs.length = len) (hm : len ≤ 1000000) (hrow : Row w A 2 pairC xs) :
    Calls Try.prog 126 #[.slice A len cap, .func (.func 125) #[] #[]] w fun e w' => e = .returned (.bool (xs.any (fun x => farB x.2))) ∧ Ext w w' := by
  go_enter Try.func126, Try.ntmps126
  go_wp2_with fail
  refine (index_any A len cap xs _ hlen hm hrow).mono ?_
  rintro e w2 ⟨r, rfl, hr, R2⟩
  have HR := Lib.hid hr
  clear hr
  go_wp2_with fail
  go_ret
  exact ⟨Z57 HR.out, R2⟩

/-- Whether a node can be. -/
def goodB (lv : Int) (xs : List (Nat × Nat)) : Bool :=
  decide (0 ≤ lv ∧ lv < 8 ∧ xs.length ≤ 15) && (riseB xs && (decide (lv = 0) || (decide (0 < xs.length) && !xs.any (fun x => farB x.2))))
set_option maxHeartbeats 1000000 in
theorem Z5h (lv : Int) (A : Option Addr) (len cap : Nat) (xs : List (Nat × Nat)) (w : World) (hlen : xs.length = len) (hm : len ≤ 1000000) (hrow : Row w A 2 pairC xs) (hx : ∀ x ∈ xs, x.1 < 18446744073709551616) :
    Calls Try.prog 108 #[.agg #[.int .i64 lv, .slice A len cap]] w fun e w' => e = .returned (.bool (goodB lv xs)) ∧ Ext w w' := by
  have hE := Ext.alloc w (.cells #[.int .i64 lv, .slice A len cap] 46)
  have hX : Blk (w.alloc (.cells #[.int .i64 lv, .slice A len cap] 46)) w.heap.size 46 #[.int .i64 lv, .slice A len cap] := Blk.new _ _ _
  have HR := Lib.hid (fun W (h : Ext (w.alloc (.cells #[.int .i64 lv, .slice A len cap] 46)) W) => rise_any A len cap xs W hlen hm (hrow.ext (hE.trans h)) hx)
  have HC := Lib.hid (fun W (h : Ext (w.alloc (.cells #[.int .i64 lv, .slice A len cap] 46)) W) => Z6f A len cap xs W hlen hm (hrow.ext (hE.trans h)))
  have HE := Lib.hid hE
  have HX := Lib.hid hX
  have hgd : goodB lv xs = (decide (0 ≤ lv ∧ lv < 8 ∧ len ≤ 15) && (riseB xs && (decide (lv = 0) || (decide (0 < len) && !xs.any (fun x => farB x.2))))) := by unfold goodB; rw [hlen]
  rw [hgd]
  generalize riseB xs = RB at HR ⊢
  generalize xs.any (fun x => farB x.2) = FB at HC ⊢
  clear hE hX hrow hx hgd hlen
  by_cases h1 : 0 ≤ lv ∧ lv < 8 ∧ len ≤ 15
  · rw [decide_eq_true h1, Bool.true_and]
    obtain ⟨ha, hb, hc⟩ := h1
    have d1 : decide (lv < 0) = false := by rw [decide_eq_false_iff_not]; omega
    have d2 : decide (8 ≤ lv) = false := by rw [decide_eq_false_iff_not]; omega
    have d3 : decide ((15 : Int) < (len : Int)) = false := by rw [decide_eq_false_iff_not]; omega
    cases RB
    · rw [Bool.false_and]
      go_enter Try.func108, Try.ntmps108
      go_wp2_with fail
      refine (HR.out _ (Ext.refl _)).mono ?_
      rintro e w2 ⟨rfl, R2⟩
      go_wp2_with fail
      go_ret
      exact ⟨rfl, HE.out.trans R2⟩
    · rw [Bool.true_and]
      by_cases h0 : lv = 0
      · rw [decide_eq_true h0, Bool.true_or]
        subst h0
        go_enter Try.func108, Try.ntmps108
        go_wp2_with fail
        refine (HR.out _ (Ext.refl _)).mono ?_
        rintro e w2 ⟨rfl, R2⟩
        have X2 := HX.out.ext R2
        have q0 := X2.cell 0
        have q1 := X2.cell 1
        clear X2
        go_wp2_with fail
        go_ret
        exact ⟨rfl, HE.out.trans R2⟩
      · rw [decide_eq_false h0, Bool.false_or]
        have d4 : (lv == 0) = false := by simpa using h0
        by_cases hl : 0 < len
        · rw [decide_eq_true hl, Bool.true_and]
          have d5 : decide ((0 : Int) < (len : Int)) = true := by rw [decide_eq_true_iff]; omega
          go_enter Try.func108, Try.ntmps108
          go_wp2_with fail
          refine (HR.out _ (Ext.refl _)).mono ?_
          rintro e w2 ⟨rfl, R2⟩
          have X2 := HX.out.ext R2
          have q0 := X2.cell 0
          have q1 := X2.cell 1
          clear X2
          go_wp2_with fail
          refine (HC.out _ R2).mono ?_
          rintro e w3 ⟨rfl, R3⟩
          go_wp2_with fail
          go_ret
          exact ⟨rfl, (HE.out.trans R2).trans R3⟩
        · rw [decide_eq_false hl, Bool.false_and]
          obtain rfl : len = 0 := by omega
          go_enter Try.func108, Try.ntmps108
          go_wp2_with fail
          refine (HR.out _ (Ext.refl _)).mono ?_
          rintro e w2 ⟨rfl, R2⟩
          have X2 := HX.out.ext R2
          have q0 := X2.cell 0
          have q1 := X2.cell 1
          clear X2
          go_wp2_with fail
          go_ret
          exact ⟨rfl, HE.out.trans R2⟩
  · rw [decide_eq_false h1, Bool.false_and]
    clear HR HC
    by_cases ha : lv < 0
    · have d1 : decide (lv < 0) = true := by rw [decide_eq_true_iff]; omega
      go_enter Try.func108, Try.ntmps108
      go_wp2_with fail
      go_ret
      exact ⟨rfl, HE.out⟩
    · have d1 : decide (lv < 0) = false := by rw [decide_eq_false_iff_not]; omega
      by_cases hb : 8 ≤ lv
      · have d2 : decide (8 ≤ lv) = true := by rw [decide_eq_true_iff]; omega
        go_enter Try.func108, Try.ntmps108
        go_wp2_with fail
        go_ret
        exact ⟨rfl, HE.out⟩
      · have d2 : decide (8 ≤ lv) = false := by rw [decide_eq_false_iff_not]; omega
        have d3 : decide ((15 : Int) < (len : Int)) = true := by rw [decide_eq_true_iff]; omega
        have hc : 15 < len := by omega
        go_enter Try.func108, Try.ntmps108
        go_wp2_with fail
        go_ret
        exact ⟨rfl, HE.out⟩
end Go.Proofs.Ytbfgacmfjfbooaa
