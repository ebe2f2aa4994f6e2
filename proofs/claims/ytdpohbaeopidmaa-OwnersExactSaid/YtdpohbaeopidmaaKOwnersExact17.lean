/- The reference of owners: Alone, Free. -/
import Derived.Test.YtdpohbaeopidmaaKOwnersExact15
import Derived.Test.YtdpohbaeopidmaaKOwnersExact16
namespace Go.Proofs.Ytdpohbaeopidmaa
set_option linter.unusedVariables false
set_option linter.unusedSimpArgs false
open Go.RowKit

/-- A row of one's own as data. -/
theorem ownsRow_Row {E : Type} {enc : E → List Value} {k : Nat} (hk : ∀ x, (enc x).length = k) (hk0 : 0 < k) {w : World} {base n : Nat} {T : TypeId} {v : Value} {X : List E} (h : w.ownsRow base T k v n (X.flatMap enc)) : ∃ B cap, v = .slice B n cap ∧ n ≤ cap ∧ cap ≤ maxLen ∧ X.length = n ∧ Row w B k enc X := by
  have hfl : ∀ X : List E, (X.flatMap enc).length = X.length * k := fun X => by
    induction X with
    | nil => simp
    | cons x X ih => rw [List.flatMap_cons, List.length_append, ih, hk, List.length_cons, Nat.succ_mul]; omega
  have hl : X.length = n := by
    have := h.1
    rw [hfl] at this
    exact Nat.eq_of_mul_eq_mul_right hk0 this
  have hF := World.ownsRowF_of h
  rcases h.2 with ⟨rfl, rfl⟩ | ⟨g, cap, cur, rfl, hb, hg, hcap, hmax, hcs, ht⟩
  · refine ⟨none, 0, rfl, Nat.le_refl _, by decide, hl, fun i x hx => ?_⟩
    have : X = [] := List.length_eq_zero_iff.1 hl
    subst this
    simp at hx
  · refine ⟨some ⟨g, 0, none⟩, cap, rfl, hcap, hmax, hl, fun i x hx => ⟨g, 0, rfl, (Array.getElem?_eq_some_iff.1 hg).1, fun j u hu => ?_⟩⟩
    have := hF.cells (g := g) rfl (i * k + j) u (flat_get hk X i x j u hx hu)
    have hadd : (⟨g, 0, none⟩ : Addr).add (i * k + j) = ⟨g, i * k + j, none⟩ := by unfold Addr.add; split <;> simp_all
    rw [hadd] at this
    rw [Nat.zero_add]
    exact this
/-- The reference's book. -/
structure URef (w : World) (ub : Nat) (v1 v2 : Value) (U V : List QD) : Prop where
  blk : Blk w ub 29 #[v1, v2]
  one : w.ownsRow 0 35 4 v1 U.length (U.flatMap qC)
  two : w.ownsRow 0 35 4 v2 V.length (V.flatMap qC)
theorem ownsRow_ext {w w' : World} {T : TypeId} {k n : Nat} {v : Value} {xs : List Value} (h : w.ownsRow 0 T k v n xs) (hE : Ext w w') : w'.ownsRow 0 T k v n xs := (tRow T k v n xs).chg h (Chg.of_ext hE []) (by simp)
theorem URef.ext {w w' : World} {ub : Nat} {v1 v2 : Value} {U V : List QD} (h : URef w ub v1 v2 U V) (hE : Ext w w') : URef w' ub v1 v2 U V := ⟨h.blk.ext hE, ownsRow_ext h.one hE, ownsRow_ext h.two hE⟩
/-- Of, of the reference's book in a later world. -/
theorem ofU_any {w : World} {v : Value} {U : List QD} (c : Int) (h : w.ownsRow 0 35 4 v U.length (U.flatMap qC)) (hn : U.length ≤ 1000000000) :
    Calls Try.prog 19 #[v, .int .i64 c] w fun e w' => ∃ B cap, e = .returned (.slice B (ofQ U c).length cap) ∧ (ofQ U c).length ≤ cap ∧ cap ≤ maxLen ∧ Row w' B 3 ownC (ofQ U c) ∧ Ext w w' := by
  obtain ⟨B, cap, rfl, h1, h2, h3, h4⟩ := ownsRow_Row qC_len (by decide) h
  refine (of_any B U.length cap U c w rfl hn h4).mono ?_
  rintro e w' ⟨v, rfl, h5, h6⟩
  obtain ⟨B', cap', rfl, k1, k2, k3, k4⟩ := ownsRow_Row ownC_len (by decide) h5
  exact ⟨B', cap', rfl, k1, k2, k4, h6⟩
def aloneX (X Y : List OwD) (o : OwD) : Bool := decide (X.length = 1) && decide (atO X 0 = o) && (decide (Y.length = 0) || (decide (Y.length = 1) && decide (atO Y 0 = o)))
theorem Row.own0 {w w' : World} {A : Option Addr} {X : List OwD} (h : Row w A 3 ownC X) (hb : Below w.heap.size w w') (hi : X.length = 1) :
    ∃ b off, A = some ⟨b, off, none⟩ ∧ w'.cell? ⟨b, off, none⟩ = some (.int .i64 (atO X 0).1) ∧ w'.cell? ⟨b, off + 1, none⟩ = some (.int .i64 (atO X 0).2.1) ∧ w'.cell? ⟨b, off + 2, none⟩ = some (.int .i64 (atO X 0).2.2) := by
  obtain ⟨b, off, hA, hlt, h0, h1, h2⟩ := h.own_in hb (i := 0) (by omega)
  rw [Nat.zero_mul, Nat.add_zero] at h0 h1 h2
  exact ⟨b, off, hA, h0, h1, h2⟩
set_option maxRecDepth 100000 in
set_option maxHeartbeats 4000000 in
theorem aloneU_any (w : World) (ub : Nat) (v1 v2 : Value) (U V : List QD) (c : Int) (o : OwD) (hU : URef w ub v1 v2 U V) (hn : U.length ≤ 1000000000) (hm : V.length ≤ 1000000000) :
    Calls Try.prog 24 #[.pointer (some ⟨ub, 0, none⟩), .int .i64 c, ownV o] w fun e w' => e = .returned (.bool (aloneX (ofQ U c) (ofQ V c) o)) ∧ Ext w w' := by
  obtain ⟨o1, o2, o3⟩ := o
  unfold ownV
  obtain ⟨r, hr⟩ : ∃ r, aloneX (ofQ U c) (ofQ V c) (o1, o2, o3) = r := ⟨_, rfl⟩
  rw [hr]
  unfold aloneX at hr
  have HC1 := Lib.hid (fun W' (hE : Ext w W') => ofU_any c (ownsRow_ext hU.one hE) hn)
  have HC2 := Lib.hid (fun W' (hE : Ext w W') => ofU_any c (ownsRow_ext hU.two hE) hm)
  have hl1 := ofQ_len U c
  have hl2 := ofQ_len V c
  obtain ⟨X, hX⟩ : ∃ X, ofQ U c = X := ⟨_, rfl⟩
  obtain ⟨Y, hY⟩ : ∃ X, ofQ V c = X := ⟨_, rfl⟩
  rw [hX] at HC1 hr hl1
  rw [hY] at HC2 hr hl2
  obtain ⟨n1, hn1⟩ : ∃ n, X.length = n := ⟨_, rfl⟩
  obtain ⟨n2, hn2⟩ : ∃ n, Y.length = n := ⟨_, rfl⟩
  rw [hn1] at HC1 hr hl1
  rw [hn2] at HC2 hr hl2
  have hnb : n1 ≤ 1000000000 ∧ n2 ≤ 1000000000 := by omega
  have HR := Lib.hid hr
  have HN1 := Lib.hid hn1
  have HN2 := Lib.hid hn2
  have hE1 := Ext.alloc w (.cells #[.int .i64 o1, .int .i64 o2, .int .i64 o3] 31)
  have HB1 := Lib.hid (Blk.new w 31 #[.int .i64 o1, .int .i64 o2, .int .i64 o3])
  have HBK := Lib.hid hU.blk
  have q0 := (hU.blk.ext hE1).cell 0
  simp at q0
  have HE1 := Lib.hid hE1
  clear hr hX hY hl1 hl2 hn1 hn2 hn hm hU hE1
  go_enter Try.func24, Try.ntmps24
  go_upto_region 1 with fail
  generalize w.alloc (.cells #[.int .i64 o1, .int .i64 o2, .int .i64 o3] 31) = w1 at HB1 HE1 q0 ⊢
  obtain ⟨g, hg⟩ : ∃ g, w.heap.size = g := ⟨_, rfl⟩
  rw [hg] at HB1 ⊢
  go_wp2_with fail
  refine (HC1.out w1 HE1.out).mono ?_
  rintro e w2 ⟨B1, cap1, rfl, k1, k2, k3, k4⟩
  have HE2 := Lib.hid (HE1.out.trans k4)
  have HB2 := Lib.hid (HB1.out.ext k4)
  have HR1 := Lib.hid k3
  have q1 := (HBK.out.ext HE2.out).cell 1
  simp at q1
  clear k3 k4 q0 HB1
  go_wp2_with fail
  refine (HC2.out w2 HE2.out).mono ?_
  rintro e w3 ⟨B2, cap2, rfl, k5, k6, k7, k8⟩
  have HE3 := Lib.hid (HE2.out.trans k8)
  have HB3 := Lib.hid (HB2.out.ext k8)
  have HQ1 := Lib.hid (fun (wx : World) (hR : Ext w3 wx) => HR1.out.own0 (k8.trans hR) )
  have HQ2 := Lib.hid (fun (wx : World) (hR : Ext w3 wx) => k7.own0 hR)
  clear k7 k8 q1 HB2 HC1 HC2 HR1
  go_upto_region 3 with fail
  by_cases h1 : n1 = 1
  · subst h1
    obtain ⟨b1, off1, rfl, -, -, -⟩ := HQ1.out w3 (Ext.refl _) HN1.out
    obtain ⟨z1, hz1⟩ : ∃ z : Bool, decide (((atO X 0).1, (atO X 0).2.1, (atO X 0).2.2) = (o1, o2, o3)) = z := ⟨_, rfl⟩
    have HEQ1 := Lib.hid (fun W => hz1 ▸ eq_own 9998 (atO X 0).1 (atO X 0).2.1 (atO X 0).2.2 o1 o2 o3 W)
    have HZ1 := Lib.hid (show decide (atO X 0 = (o1, o2, o3)) = z1 from hz1)
    obtain ⟨y1, hy1⟩ : ∃ y, (atO X 0).1 = y := ⟨_, rfl⟩
    obtain ⟨y2, hy2⟩ : ∃ y, (atO X 0).2.1 = y := ⟨_, rfl⟩
    obtain ⟨y3, hy3⟩ : ∃ y, (atO X 0).2.2 = y := ⟨_, rfl⟩
    simp only [hy1, hy2, hy3] at HEQ1 HQ1
    clear hz1 hy1 hy2 hy3
    cases z1
    · have hres : r = false := by rw [← HR.out, HZ1.out]; simp
      have HRES := Lib.hid hres
      clear hres
      refine wp_typed (R := Ext) (w0 := w3) [[], [0], [0, 1], [0, 1, 2], [0, 1, 2, 3], [0, 1, 2, 3, 4], [0, 1, 2, 3, 4, 5], [0, 1, 2, 3], [0, 1, 2, 3, 4, 5, 6, 7], [0, 1, 2, 3, 4, 5, 6, 7, 8], [0, 1, 2, 3, 4, 5, 6, 7, 8, 9], [0, 1, 2, 3, 4, 5, 6, 7, 8, 9, 10], [0, 1, 2, 3, 4, 5, 6, 7, 8, 9, 10, 11], [0, 1, 2, 3, 4, 5, 6, 7, 8, 9, 10, 11, 12], [0, 1, 2, 3, 4, 5, 6, 7, 8, 9, 10, 11, 12, 13], [0, 1, 2, 3, 4, 5, 6, 7, 8, 9, 10, 11, 12, 13, 14], [0, 1, 2, 3, 4, 5, 6, 7, 8, 9, 10, 11, 12, 13, 14, 15], [0, 1, 2, 3, 4, 5, 6, 7, 8, 9, 10, 11, 12, 13, 14, 15, 16], [0, 1, 2, 3, 4, 5, 6, 7, 8, 9, 10, 11, 12, 13, 14, 15, 16, 17], [0, 1, 2, 3, 4, 5, 6, 7, 8, 9, 10, 11, 12, 13, 14, 15, 16, 17, 18], [0, 1, 2, 3, 4, 5, 6, 7, 8, 9, 10, 11, 12, 13, 14, 15, 16, 17, 18, 19], [0, 1, 2, 3, 4, 5, 6, 7, 8, 9, 10, 11, 12, 13, 14, 15, 16, 17, 18, 19, 20], [0, 1, 2, 3, 4, 5, 6, 7, 8, 9, 10, 11, 12, 13, 14, 15, 16, 17, 18], [0, 1, 2, 3, 4, 5, 6, 7, 8, 9, 10, 11, 12, 13, 14, 15, 16, 17, 18, 19, 20, 21, 22], [0, 1, 2, 3, 4, 5, 6, 7, 8, 9, 10, 11, 12, 13, 14, 15, 16, 17, 18, 19, 20, 21, 22, 23], [0, 1, 2, 3, 4, 5, 6, 7, 8, 9, 10, 11, 12, 13, 14, 15, 16, 17, 18, 19, 20, 21, 22, 23, 24], [0, 1, 2, 3, 4, 5, 6, 7, 8, 9, 10, 11, 12, 13, 14, 15, 16, 17, 18, 19, 20, 21, 22, 23, 24, 25], [0, 1, 2, 3, 4, 5, 6, 7, 8, 9, 10, 11, 12, 13, 14, 15, 16, 17, 18, 19, 20, 21, 22, 23, 24, 25, 26]] [21, 22, 23, 24, 25, 26, 27, 28, 29, 30, 31, 32, 33, 34, 35, 36, 37, 38, 39, 40, 41, 42, 43, 44, 45, 46, 47] Ext.refl (fun _ _ _ => Ext.trans) (Ext.drew _) (by kernel_rfl) ?_
      apply Build.det 21 Ext.refl (by rfl) (by rfl) rfl
      case h =>   -- 0: t21 := Op.move (tmp 7)
        intro ax wx hE hR hF
        have e7 : ax.eval (.tmp 7) = .slice (some ⟨b1, off1, none⟩) 1 cap1 := hE.eval 7 (by rfl) rfl
        simp [go_sem, BigFrame.eval_const, BigFrame.eval_global, BigFrame.eval_func, ↓IntWalk.iteOmega, ev e7]
        with_reducible rfl
      apply Build.det 22 Ext.refl (by rfl) (by rfl) rfl
      case h =>   -- 1: t22 := Op.call {callee := Callee.builtin Builtin.len, args := #[tmp 21], argT
        intro ax wx hE hR hF
        have e21 : ax.eval (.tmp 21) = _ := hF 0 (det 21 _) (by decide) (.head _)
        simp [go_sem, BigFrame.eval_const, BigFrame.eval_global, BigFrame.eval_func, ↓IntWalk.iteOmega, ev e21]
        with_reducible rfl
      apply Build.det 23 Ext.refl (by rfl) (by rfl) rfl
      case h =>   -- 2: t23 := Op.binOp BinOp.eql 3 (tmp 22) (const (Value.int IntKind.i64 1)) 3
        intro ax wx hE hR hF
        have e22 : ax.eval (.tmp 22) = _ := hF 1 (det 22 _) (by decide) (.head _)
        simp [go_sem, BigFrame.eval_const, BigFrame.eval_global, BigFrame.eval_func, ↓IntWalk.iteOmega, ev e22]
        with_reducible rfl
      apply Build.det 24 Ext.refl (by rfl) (by rfl) rfl
      case h =>   -- 3: t24 := Op.move (tmp 23)
        intro ax wx hE hR hF
        have e23 : ax.eval (.tmp 23) = _ := hF 2 (det 23 _) (by decide) (.head _)
        simp [go_sem, BigFrame.eval_const, BigFrame.eval_global, BigFrame.eval_func, ↓IntWalk.iteOmega, ev e23]
        with_reducible rfl
      apply Build.detg 25 Ext.refl (by rfl) (by rfl) rfl rfl
      case h =>   -- 4: t25 := Op.move (tmp 7)
        intro ax wx hE hR hF
        have e7 : ax.eval (.tmp 7) = .slice (some ⟨b1, off1, none⟩) 1 cap1 := hE.eval 7 (by rfl) rfl
        have e24 : ax.eval (.tmp 24) = _ := hF 3 (det 24 _) (by decide) (.head _)
        refine ⟨e24, ?_⟩
        simp [go_sem, BigFrame.eval_const, BigFrame.eval_global, BigFrame.eval_func, ↓IntWalk.iteOmega, ev e7, ev e24]
        with_reducible rfl
      apply Build.detg 26 Ext.refl (by rfl) (by rfl) rfl rfl
      case h =>   -- 5: t26 := Op.indexAddr 42 (tmp 25) (const (Value.int IntKind.i64 0))
        intro ax wx hE hR hF
        have e24 : ax.eval (.tmp 24) = _ := hF 3 (det 24 _) (by decide) (.tail _ (.head _))
        have e25 : ax.eval (.tmp 25) = _ := hF 4 (det 25 _) (by decide) (.head _)
        refine ⟨e24, ?_⟩
        simp [go_sem, BigFrame.eval_const, BigFrame.eval_global, BigFrame.eval_func, ↓IntWalk.iteOmega, ev e24, ev e25]
        with_reducible rfl
      apply Build.detg 27 Ext.refl (by rfl) (by rfl) rfl rfl
      case h =>   -- 6: t27 := Op.load 31 (tmp 26)
        intro ax wx hE hR hF
        have e24 : ax.eval (.tmp 24) = _ := hF 3 (det 24 _) (by decide) (.tail _ (.tail _ (.head _)))
        have e26 : ax.eval (.tmp 26) = _ := hF 5 (det 26 _) (by decide) (.head _)
        have hB := HB3.out.ext hR; have a0 := hB.cell 0; have a1 := hB.cell 1; have a2 := hB.cell 2; simp at a0 a1 a2; obtain ⟨_, _, hA1, q0, q1, q2⟩ := HQ1.out wx hR HN1.out; cases hA1
        refine ⟨e24, ?_⟩
        simp [go_sem, BigFrame.eval_const, BigFrame.eval_global, BigFrame.eval_func, ↓IntWalk.iteOmega, ev e24, ev e26, a0, a1, a2, q0, q1, q2]
        with_reducible rfl
      apply Build.detg 28 Ext.refl (by rfl) (by rfl) rfl rfl
      case h =>   -- 7: t28 := Op.load 31 (tmp 5)
        intro ax wx hE hR hF
        have e5 : ax.eval (.tmp 5) = .pointer (some ⟨g, 0, none⟩) := hE.eval 5 (by rfl) rfl
        have e24 : ax.eval (.tmp 24) = _ := hF 3 (det 24 _) (by decide) (.tail _ (.tail _ (.tail _ (.head _))))
        have hB := HB3.out.ext hR; have a0 := hB.cell 0; have a1 := hB.cell 1; have a2 := hB.cell 2; simp at a0 a1 a2; obtain ⟨_, _, hA1, q0, q1, q2⟩ := HQ1.out wx hR HN1.out; cases hA1
        refine ⟨e24, ?_⟩
        simp [go_sem, BigFrame.eval_const, BigFrame.eval_global, BigFrame.eval_func, ↓IntWalk.iteOmega, ev e5, ev e24, a0, a1, a2, q0, q1, q2]
        with_reducible rfl
      apply Build.detg 29 Ext.refl (by rfl) (by rfl) rfl rfl
      case h =>   -- 8: t29 := Op.binOp BinOp.eql 31 (tmp 27) (tmp 28) 31
        intro ax wx hE hR hF
        have e24 : ax.eval (.tmp 24) = _ := hF 3 (det 24 _) (by decide) (.tail _ (.tail _ (.tail _ (.tail _ (.head _)))))
        have e27 : ax.eval (.tmp 27) = _ := hF 6 (det 27 _) (by decide) (.tail _ (.head _))
        have e28 : ax.eval (.tmp 28) = _ := hF 7 (det 28 _) (by decide) (.head _)
        refine ⟨e24, ?_⟩
        simp [go_sem, BigFrame.eval_const, BigFrame.eval_global, BigFrame.eval_func, ↓IntWalk.iteOmega, ev e24, ev e27, ev e28, HEQ1.out]
        with_reducible rfl
      apply Build.det 30 Ext.refl (by rfl) (by rfl) rfl
      case h =>   -- 9: t30 := Op.pick (tmp 24) (tmp 29) (const (Value.bool false))
        intro ax wx hE hR hF
        have e24 : ax.eval (.tmp 24) = _ := hF 3 (det 24 _) (by decide) (.tail _ (.tail _ (.tail _ (.tail _ (.tail _ (.head _))))))
        have e29 : ax.eval (.tmp 29) = _ := hF 8 (det 29 _) (by decide) (.head _)
        simp [go_sem, BigFrame.eval_const, BigFrame.eval_global, BigFrame.eval_func, ↓IntWalk.iteOmega, ev e24, ev e29]
        with_reducible rfl
      apply Build.det 31 Ext.refl (by rfl) (by rfl) rfl
      case h =>   -- 10: t31 := Op.move (tmp 30)
        intro ax wx hE hR hF
        have e30 : ax.eval (.tmp 30) = _ := hF 9 (det 30 _) (by decide) (.head _)
        simp [go_sem, BigFrame.eval_const, BigFrame.eval_global, BigFrame.eval_func, ↓IntWalk.iteOmega, ev e30]
        with_reducible rfl
      refine Build.skip 32 (by rfl) (by rfl) rfl rfl ?_ ?_
      · intro ax wx hE hR hF
        have e8 : ax.eval (.tmp 8) = .slice B2 n2 cap2 := hE.eval 8 (by rfl) rfl
        have e31 : ax.eval (.tmp 31) = _ := hF 10 (det 31 _) (by decide) (.head _)
        exact e31
      refine Build.skip 33 (by rfl) (by rfl) rfl rfl ?_ ?_
      · intro ax wx hE hR hF
        have e31 : ax.eval (.tmp 31) = _ := hF 10 (det 31 _) (by decide) (.tail _ (.head _))
        have e32 : ax.eval (.tmp 32) = _ := hF 11 (det 32 _) (by decide) (.head _)
        exact e31
      refine Build.skip 34 (by rfl) (by rfl) rfl rfl ?_ ?_
      · intro ax wx hE hR hF
        have e31 : ax.eval (.tmp 31) = _ := hF 10 (det 31 _) (by decide) (.tail _ (.tail _ (.head _)))
        have e33 : ax.eval (.tmp 33) = _ := hF 12 (det 33 _) (by decide) (.head _)
        exact e31
      refine Build.skip 35 (by rfl) (by rfl) rfl rfl ?_ ?_
      · intro ax wx hE hR hF
        have e31 : ax.eval (.tmp 31) = _ := hF 10 (det 31 _) (by decide) (.tail _ (.tail _ (.tail _ (.head _))))
        have e34 : ax.eval (.tmp 34) = _ := hF 13 (det 34 _) (by decide) (.head _)
        exact e31
      refine Build.skipu 36 (by rfl) (by rfl) rfl rfl ?_ ?_
      · intro ax wx hE hR hF
        have e8 : ax.eval (.tmp 8) = .slice B2 n2 cap2 := hE.eval 8 (by rfl) rfl
        have e35 : ax.eval (.tmp 35) = _ := hF 14 (det 35 _) (by decide) (.head _)
        exact e35
      refine Build.skipu 37 (by rfl) (by rfl) rfl rfl ?_ ?_
      · intro ax wx hE hR hF
        have e35 : ax.eval (.tmp 35) = _ := hF 14 (det 35 _) (by decide) (.tail _ (.head _))
        have e36 : ax.eval (.tmp 36) = _ := hF 15 (det 36 _) (by decide) (.head _)
        exact e35
      refine Build.skipu 38 (by rfl) (by rfl) rfl rfl ?_ ?_
      · intro ax wx hE hR hF
        have e35 : ax.eval (.tmp 35) = _ := hF 14 (det 35 _) (by decide) (.tail _ (.tail _ (.head _)))
        have e37 : ax.eval (.tmp 37) = _ := hF 16 (det 37 _) (by decide) (.head _)
        exact e35
      refine Build.skipu 39 (by rfl) (by rfl) rfl rfl ?_ ?_
      · intro ax wx hE hR hF
        have e35 : ax.eval (.tmp 35) = _ := hF 14 (det 35 _) (by decide) (.tail _ (.tail _ (.tail _ (.head _))))
        have e38 : ax.eval (.tmp 38) = _ := hF 17 (det 38 _) (by decide) (.head _)
        exact e35
      refine Build.skipu 40 (by rfl) (by rfl) rfl rfl ?_ ?_
      · intro ax wx hE hR hF
        have e8 : ax.eval (.tmp 8) = .slice B2 n2 cap2 := hE.eval 8 (by rfl) rfl
        have e39 : ax.eval (.tmp 39) = _ := hF 18 (det 39 _) (by decide) (.head _)
        exact e39
      refine Build.skipu 41 (by rfl) (by rfl) rfl rfl ?_ ?_
      · intro ax wx hE hR hF
        have e39 : ax.eval (.tmp 39) = _ := hF 18 (det 39 _) (by decide) (.tail _ (.head _))
        have e40 : ax.eval (.tmp 40) = _ := hF 19 (det 40 _) (by decide) (.head _)
        exact e39
      refine Build.skipu 42 (by rfl) (by rfl) rfl rfl ?_ ?_
      · intro ax wx hE hR hF
        have e39 : ax.eval (.tmp 39) = _ := hF 18 (det 39 _) (by decide) (.tail _ (.tail _ (.head _)))
        have e41 : ax.eval (.tmp 41) = _ := hF 20 (det 41 _) (by decide) (.head _)
        exact e39
      refine Build.skipu 43 (by rfl) (by rfl) rfl rfl ?_ ?_
      · intro ax wx hE hR hF
        have e5 : ax.eval (.tmp 5) = .pointer (some ⟨g, 0, none⟩) := hE.eval 5 (by rfl) rfl
        have e39 : ax.eval (.tmp 39) = _ := hF 18 (det 39 _) (by decide) (.tail _ (.tail _ (.tail _ (.head _))))
        exact e39
      refine Build.skipu 44 (by rfl) (by rfl) rfl rfl ?_ ?_
      · intro ax wx hE hR hF
        have e39 : ax.eval (.tmp 39) = _ := hF 18 (det 39 _) (by decide) (.tail _ (.tail _ (.tail _ (.tail _ (.head _)))))
        have e42 : ax.eval (.tmp 42) = _ := hF 21 (det 42 _) (by decide) (.tail _ (.head _))
        have e43 : ax.eval (.tmp 43) = _ := hF 22 (det 43 _) (by decide) (.head _)
        exact e39
      refine Build.skipu 45 (by rfl) (by rfl) rfl rfl ?_ ?_
      · intro ax wx hE hR hF
        have e35 : ax.eval (.tmp 35) = _ := hF 14 (det 35 _) (by decide) (.tail _ (.tail _ (.tail _ (.tail _ (.tail _ (.tail _ (.tail _ (.tail _ (.tail _ (.head _))))))))))
        have e39 : ax.eval (.tmp 39) = _ := hF 18 (det 39 _) (by decide) (.tail _ (.tail _ (.tail _ (.tail _ (.tail _ (.head _))))))
        have e44 : ax.eval (.tmp 44) = _ := hF 23 (det 44 _) (by decide) (.head _)
        exact e35
      refine Build.skip 46 (by rfl) (by rfl) rfl rfl ?_ ?_
      · intro ax wx hE hR hF
        have e31 : ax.eval (.tmp 31) = _ := hF 10 (det 31 _) (by decide) (.tail _ (.tail _ (.tail _ (.tail _ (.tail _ (.tail _ (.tail _ (.tail _ (.tail _ (.tail _ (.tail _ (.tail _ (.tail _ (.tail _ (.head _)))))))))))))))
        have e35 : ax.eval (.tmp 35) = _ := hF 14 (det 35 _) (by decide) (.tail _ (.tail _ (.tail _ (.tail _ (.tail _ (.tail _ (.tail _ (.tail _ (.tail _ (.tail _ (.head _)))))))))))
        have e45 : ax.eval (.tmp 45) = _ := hF 24 (det 45 _) (by decide) (.head _)
        exact e31
      apply Build.det 47 Ext.refl (by rfl) (by rfl) rfl
      case h =>   -- 26: t47 := Op.pick (tmp 31) (tmp 46) (const (Value.bool false))
        intro ax wx hE hR hF
        have e31 : ax.eval (.tmp 31) = _ := hF 10 (det 31 _) (by decide) (.tail _ (.tail _ (.tail _ (.tail _ (.tail _ (.tail _ (.tail _ (.tail _ (.tail _ (.tail _ (.tail _ (.tail _ (.tail _ (.tail _ (.tail _ (.head _))))))))))))))))
        have e46 : ax.eval (.tmp 46) = _ := hF 25 (det 46 _) (by decide) (.head _)
        simp [go_sem, BigFrame.eval_const, BigFrame.eval_global, BigFrame.eval_func, ↓IntWalk.iteOmega, ev e31, ev e46]
        with_reducible rfl
      apply Build.stop
      refine ⟨by kernel_rfl, .inr ⟨by kernel_rfl, _, rfl, rfl, ?_⟩⟩
      intro ax w4 hE R4 hF
      have e21 : ax.eval (.tmp 21) = _ := hF 0 (det 21 _) (.tail _ (.tail _ (.tail _ (.tail _ (.tail _ (.tail _ (.tail _ (.tail _ (.tail _ (.tail _ (.tail _ (.tail _ (.tail _ (.tail _ (.tail _ (.tail _ (.tail _ (.tail _ (.tail _ (.tail _ (.tail _ (.tail _ (.tail _ (.tail _ (.tail _ (.tail _ (.head _)))))))))))))))))))))))))))
      have e22 : ax.eval (.tmp 22) = _ := hF 1 (det 22 _) (.tail _ (.tail _ (.tail _ (.tail _ (.tail _ (.tail _ (.tail _ (.tail _ (.tail _ (.tail _ (.tail _ (.tail _ (.tail _ (.tail _ (.tail _ (.tail _ (.tail _ (.tail _ (.tail _ (.tail _ (.tail _ (.tail _ (.tail _ (.tail _ (.tail _ (.head _))))))))))))))))))))))))))
      have e23 : ax.eval (.tmp 23) = _ := hF 2 (det 23 _) (.tail _ (.tail _ (.tail _ (.tail _ (.tail _ (.tail _ (.tail _ (.tail _ (.tail _ (.tail _ (.tail _ (.tail _ (.tail _ (.tail _ (.tail _ (.tail _ (.tail _ (.tail _ (.tail _ (.tail _ (.tail _ (.tail _ (.tail _ (.tail _ (.head _)))))))))))))))))))))))))
      have e24 : ax.eval (.tmp 24) = _ := hF 3 (det 24 _) (.tail _ (.tail _ (.tail _ (.tail _ (.tail _ (.tail _ (.tail _ (.tail _ (.tail _ (.tail _ (.tail _ (.tail _ (.tail _ (.tail _ (.tail _ (.tail _ (.tail _ (.tail _ (.tail _ (.tail _ (.tail _ (.tail _ (.tail _ (.head _))))))))))))))))))))))))
      have e25 : ax.eval (.tmp 25) = _ := hF 4 (det 25 _) (.tail _ (.tail _ (.tail _ (.tail _ (.tail _ (.tail _ (.tail _ (.tail _ (.tail _ (.tail _ (.tail _ (.tail _ (.tail _ (.tail _ (.tail _ (.tail _ (.tail _ (.tail _ (.tail _ (.tail _ (.tail _ (.tail _ (.head _)))))))))))))))))))))))
      have e26 : ax.eval (.tmp 26) = _ := hF 5 (det 26 _) (.tail _ (.tail _ (.tail _ (.tail _ (.tail _ (.tail _ (.tail _ (.tail _ (.tail _ (.tail _ (.tail _ (.tail _ (.tail _ (.tail _ (.tail _ (.tail _ (.tail _ (.tail _ (.tail _ (.tail _ (.tail _ (.head _))))))))))))))))))))))
      have e27 : ax.eval (.tmp 27) = _ := hF 6 (det 27 _) (.tail _ (.tail _ (.tail _ (.tail _ (.tail _ (.tail _ (.tail _ (.tail _ (.tail _ (.tail _ (.tail _ (.tail _ (.tail _ (.tail _ (.tail _ (.tail _ (.tail _ (.tail _ (.tail _ (.tail _ (.head _)))))))))))))))))))))
      have e28 : ax.eval (.tmp 28) = _ := hF 7 (det 28 _) (.tail _ (.tail _ (.tail _ (.tail _ (.tail _ (.tail _ (.tail _ (.tail _ (.tail _ (.tail _ (.tail _ (.tail _ (.tail _ (.tail _ (.tail _ (.tail _ (.tail _ (.tail _ (.tail _ (.head _))))))))))))))))))))
      have e29 : ax.eval (.tmp 29) = _ := hF 8 (det 29 _) (.tail _ (.tail _ (.tail _ (.tail _ (.tail _ (.tail _ (.tail _ (.tail _ (.tail _ (.tail _ (.tail _ (.tail _ (.tail _ (.tail _ (.tail _ (.tail _ (.tail _ (.tail _ (.head _)))))))))))))))))))
      have e30 : ax.eval (.tmp 30) = _ := hF 9 (det 30 _) (.tail _ (.tail _ (.tail _ (.tail _ (.tail _ (.tail _ (.tail _ (.tail _ (.tail _ (.tail _ (.tail _ (.tail _ (.tail _ (.tail _ (.tail _ (.tail _ (.tail _ (.head _))))))))))))))))))
      have e31 : ax.eval (.tmp 31) = _ := hF 10 (det 31 _) (.tail _ (.tail _ (.tail _ (.tail _ (.tail _ (.tail _ (.tail _ (.tail _ (.tail _ (.tail _ (.tail _ (.tail _ (.tail _ (.tail _ (.tail _ (.tail _ (.head _)))))))))))))))))
      have e32 : ax.eval (.tmp 32) = _ := hF 11 (det 32 _) (.tail _ (.tail _ (.tail _ (.tail _ (.tail _ (.tail _ (.tail _ (.tail _ (.tail _ (.tail _ (.tail _ (.tail _ (.tail _ (.tail _ (.tail _ (.head _))))))))))))))))
      have e33 : ax.eval (.tmp 33) = _ := hF 12 (det 33 _) (.tail _ (.tail _ (.tail _ (.tail _ (.tail _ (.tail _ (.tail _ (.tail _ (.tail _ (.tail _ (.tail _ (.tail _ (.tail _ (.tail _ (.head _)))))))))))))))
      have e34 : ax.eval (.tmp 34) = _ := hF 13 (det 34 _) (.tail _ (.tail _ (.tail _ (.tail _ (.tail _ (.tail _ (.tail _ (.tail _ (.tail _ (.tail _ (.tail _ (.tail _ (.tail _ (.head _))))))))))))))
      have e35 : ax.eval (.tmp 35) = _ := hF 14 (det 35 _) (.tail _ (.tail _ (.tail _ (.tail _ (.tail _ (.tail _ (.tail _ (.tail _ (.tail _ (.tail _ (.tail _ (.tail _ (.head _)))))))))))))
      have e36 : ax.eval (.tmp 36) = _ := hF 15 (det 36 _) (.tail _ (.tail _ (.tail _ (.tail _ (.tail _ (.tail _ (.tail _ (.tail _ (.tail _ (.tail _ (.tail _ (.head _))))))))))))
      have e37 : ax.eval (.tmp 37) = _ := hF 16 (det 37 _) (.tail _ (.tail _ (.tail _ (.tail _ (.tail _ (.tail _ (.tail _ (.tail _ (.tail _ (.tail _ (.head _)))))))))))
      have e38 : ax.eval (.tmp 38) = _ := hF 17 (det 38 _) (.tail _ (.tail _ (.tail _ (.tail _ (.tail _ (.tail _ (.tail _ (.tail _ (.tail _ (.head _))))))))))
      have e39 : ax.eval (.tmp 39) = _ := hF 18 (det 39 _) (.tail _ (.tail _ (.tail _ (.tail _ (.tail _ (.tail _ (.tail _ (.tail _ (.head _)))))))))
      have e40 : ax.eval (.tmp 40) = _ := hF 19 (det 40 _) (.tail _ (.tail _ (.tail _ (.tail _ (.tail _ (.tail _ (.tail _ (.head _))))))))
      have e41 : ax.eval (.tmp 41) = _ := hF 20 (det 41 _) (.tail _ (.tail _ (.tail _ (.tail _ (.tail _ (.tail _ (.head _)))))))
      have e42 : ax.eval (.tmp 42) = _ := hF 21 (det 42 _) (.tail _ (.tail _ (.tail _ (.tail _ (.tail _ (.head _))))))
      have e43 : ax.eval (.tmp 43) = _ := hF 22 (det 43 _) (.tail _ (.tail _ (.tail _ (.tail _ (.head _)))))
      have e44 : ax.eval (.tmp 44) = _ := hF 23 (det 44 _) (.tail _ (.tail _ (.tail _ (.head _))))
      have e45 : ax.eval (.tmp 45) = _ := hF 24 (det 45 _) (.tail _ (.tail _ (.head _)))
      have e46 : ax.eval (.tmp 46) = _ := hF 25 (det 46 _) (.tail _ (.head _))
      have e47 : ax.eval (.tmp 47) = _ := hF 26 (det 47 _) (.head _)
      rw [AllEq.frame (D := [21, 22, 23, 24, 25, 26, 27, 28, 29, 30, 31, 32, 33, 34, 35, 36, 37, 38, 39, 40, 41, 42, 43, 44, 45, 46, 47]) (AllEq.cons e21 (AllEq.cons e22 (AllEq.cons e23 (AllEq.cons e24 (AllEq.cons e25 (AllEq.cons e26 (AllEq.cons e27 (AllEq.cons e28 (AllEq.cons e29 (AllEq.cons e30 (AllEq.cons e31 (AllEq.cons e32 (AllEq.cons e33 (AllEq.cons e34 (AllEq.cons e35 (AllEq.cons e36 (AllEq.cons e37 (AllEq.cons e38 (AllEq.cons e39 (AllEq.cons e40 (AllEq.cons e41 (AllEq.cons e42 (AllEq.cons e43 (AllEq.cons e44 (AllEq.cons e45 (AllEq.cons e46 (AllEq.cons e47 (AllEq.nil)))))))))))))))))))))))))))) hE rfl]
      clear hF hE e21 e22 e23 e24 e25 e26 e27 e28 e29 e30 e31 e32 e33 e34 e35 e36 e37 e38 e39 e40 e41 e42 e43 e44 e45 e46 e47
      simp only [List.foldl_cons, List.foldl_nil, Act.put, List.setIfInBounds_toArray, List.set_cons_succ, List.set_cons_zero]
      have HE4 := Lib.hid (HE3.out.trans R4)
      clear R4 HQ1 HQ2
      go_wp2_with fail
      go_ret
      exact ⟨by rw [HRES.out]; rfl, HE4.out⟩
    · by_cases h2 : n2 = 0
      · subst h2
        have hres : r = true := by rw [← HR.out, HZ1.out]; simp
        have HRES := Lib.hid hres
        clear hres
        refine wp_typed (R := Ext) (w0 := w3) [[], [0], [0, 1], [0, 1, 2], [0, 1, 2, 3], [0, 1, 2, 3, 4], [0, 1, 2, 3, 4, 5], [0, 1, 2, 3], [0, 1, 2, 3, 4, 5, 6, 7], [0, 1, 2, 3, 4, 5, 6, 7, 8], [0, 1, 2, 3, 4, 5, 6, 7, 8, 9], [0, 1, 2, 3, 4, 5, 6, 7, 8, 9, 10], [0, 1, 2, 3, 4, 5, 6, 7, 8, 9, 10, 11], [0, 1, 2, 3, 4, 5, 6, 7, 8, 9, 10, 11, 12], [0, 1, 2, 3, 4, 5, 6, 7, 8, 9, 10, 11, 12, 13], [0, 1, 2, 3, 4, 5, 6, 7, 8, 9, 10, 11, 12, 13, 14], [0, 1, 2, 3, 4, 5, 6, 7, 8, 9, 10, 11, 12, 13, 14, 15], [0, 1, 2, 3, 4, 5, 6, 7, 8, 9, 10, 11, 12, 13, 14, 15, 16], [0, 1, 2, 3, 4, 5, 6, 7, 8, 9, 10, 11, 12, 13, 14, 15, 16, 17], [0, 1, 2, 3, 4, 5, 6, 7, 8, 9, 10, 11, 12, 13, 14, 15, 16, 17, 18], [0, 1, 2, 3, 4, 5, 6, 7, 8, 9, 10, 11, 12, 13, 14, 15, 16, 17, 18, 19], [0, 1, 2, 3, 4, 5, 6, 7, 8, 9, 10, 11, 12, 13, 14, 15, 16, 17, 18, 19, 20], [0, 1, 2, 3, 4, 5, 6, 7, 8, 9, 10, 11, 12, 13, 14, 15, 16, 17, 18], [0, 1, 2, 3, 4, 5, 6, 7, 8, 9, 10, 11, 12, 13, 14, 15, 16, 17, 18, 19, 20, 21, 22], [0, 1, 2, 3, 4, 5, 6, 7, 8, 9, 10, 11, 12, 13, 14, 15, 16, 17, 18, 19, 20, 21, 22, 23], [0, 1, 2, 3, 4, 5, 6, 7, 8, 9, 10, 11, 12, 13, 14, 15, 16, 17, 18, 19, 20, 21, 22, 23, 24], [0, 1, 2, 3, 4, 5, 6, 7, 8, 9, 10, 11, 12, 13, 14, 15, 16, 17, 18, 19, 20, 21, 22, 23, 24, 25], [0, 1, 2, 3, 4, 5, 6, 7, 8, 9, 10, 11, 12, 13, 14, 15, 16, 17, 18, 19, 20, 21, 22, 23, 24, 25, 26]] [21, 22, 23, 24, 25, 26, 27, 28, 29, 30, 31, 32, 33, 34, 35, 36, 37, 38, 39, 40, 41, 42, 43, 44, 45, 46, 47] Ext.refl (fun _ _ _ => Ext.trans) (Ext.drew _) (by kernel_rfl) ?_
        apply Build.det 21 Ext.refl (by rfl) (by rfl) rfl
        case h =>   -- 0: t21 := Op.move (tmp 7)
          intro ax wx hE hR hF
          have e7 : ax.eval (.tmp 7) = .slice (some ⟨b1, off1, none⟩) 1 cap1 := hE.eval 7 (by rfl) rfl
          simp [go_sem, BigFrame.eval_const, BigFrame.eval_global, BigFrame.eval_func, ↓IntWalk.iteOmega, ev e7]
          with_reducible rfl
        apply Build.det 22 Ext.refl (by rfl) (by rfl) rfl
        case h =>   -- 1: t22 := Op.call {callee := Callee.builtin Builtin.len, args := #[tmp 21], argT
          intro ax wx hE hR hF
          have e21 : ax.eval (.tmp 21) = _ := hF 0 (det 21 _) (by decide) (.head _)
          simp [go_sem, BigFrame.eval_const, BigFrame.eval_global, BigFrame.eval_func, ↓IntWalk.iteOmega, ev e21]
          with_reducible rfl
        apply Build.det 23 Ext.refl (by rfl) (by rfl) rfl
        case h =>   -- 2: t23 := Op.binOp BinOp.eql 3 (tmp 22) (const (Value.int IntKind.i64 1)) 3
          intro ax wx hE hR hF
          have e22 : ax.eval (.tmp 22) = _ := hF 1 (det 22 _) (by decide) (.head _)
          simp [go_sem, BigFrame.eval_const, BigFrame.eval_global, BigFrame.eval_func, ↓IntWalk.iteOmega, ev e22]
          with_reducible rfl
        apply Build.det 24 Ext.refl (by rfl) (by rfl) rfl
        case h =>   -- 3: t24 := Op.move (tmp 23)
          intro ax wx hE hR hF
          have e23 : ax.eval (.tmp 23) = _ := hF 2 (det 23 _) (by decide) (.head _)
          simp [go_sem, BigFrame.eval_const, BigFrame.eval_global, BigFrame.eval_func, ↓IntWalk.iteOmega, ev e23]
          with_reducible rfl
        apply Build.detg 25 Ext.refl (by rfl) (by rfl) rfl rfl
        case h =>   -- 4: t25 := Op.move (tmp 7)
          intro ax wx hE hR hF
          have e7 : ax.eval (.tmp 7) = .slice (some ⟨b1, off1, none⟩) 1 cap1 := hE.eval 7 (by rfl) rfl
          have e24 : ax.eval (.tmp 24) = _ := hF 3 (det 24 _) (by decide) (.head _)
          refine ⟨e24, ?_⟩
          simp [go_sem, BigFrame.eval_const, BigFrame.eval_global, BigFrame.eval_func, ↓IntWalk.iteOmega, ev e7, ev e24]
          with_reducible rfl
        apply Build.detg 26 Ext.refl (by rfl) (by rfl) rfl rfl
        case h =>   -- 5: t26 := Op.indexAddr 42 (tmp 25) (const (Value.int IntKind.i64 0))
          intro ax wx hE hR hF
          have e24 : ax.eval (.tmp 24) = _ := hF 3 (det 24 _) (by decide) (.tail _ (.head _))
          have e25 : ax.eval (.tmp 25) = _ := hF 4 (det 25 _) (by decide) (.head _)
          refine ⟨e24, ?_⟩
          simp [go_sem, BigFrame.eval_const, BigFrame.eval_global, BigFrame.eval_func, ↓IntWalk.iteOmega, ev e24, ev e25]
          with_reducible rfl
        apply Build.detg 27 Ext.refl (by rfl) (by rfl) rfl rfl
        case h =>   -- 6: t27 := Op.load 31 (tmp 26)
          intro ax wx hE hR hF
          have e24 : ax.eval (.tmp 24) = _ := hF 3 (det 24 _) (by decide) (.tail _ (.tail _ (.head _)))
          have e26 : ax.eval (.tmp 26) = _ := hF 5 (det 26 _) (by decide) (.head _)
          have hB := HB3.out.ext hR; have a0 := hB.cell 0; have a1 := hB.cell 1; have a2 := hB.cell 2; simp at a0 a1 a2; obtain ⟨_, _, hA1, q0, q1, q2⟩ := HQ1.out wx hR HN1.out; cases hA1
          refine ⟨e24, ?_⟩
          simp [go_sem, BigFrame.eval_const, BigFrame.eval_global, BigFrame.eval_func, ↓IntWalk.iteOmega, ev e24, ev e26, a0, a1, a2, q0, q1, q2]
          with_reducible rfl
        apply Build.detg 28 Ext.refl (by rfl) (by rfl) rfl rfl
        case h =>   -- 7: t28 := Op.load 31 (tmp 5)
          intro ax wx hE hR hF
          have e5 : ax.eval (.tmp 5) = .pointer (some ⟨g, 0, none⟩) := hE.eval 5 (by rfl) rfl
          have e24 : ax.eval (.tmp 24) = _ := hF 3 (det 24 _) (by decide) (.tail _ (.tail _ (.tail _ (.head _))))
          have hB := HB3.out.ext hR; have a0 := hB.cell 0; have a1 := hB.cell 1; have a2 := hB.cell 2; simp at a0 a1 a2; obtain ⟨_, _, hA1, q0, q1, q2⟩ := HQ1.out wx hR HN1.out; cases hA1
          refine ⟨e24, ?_⟩
          simp [go_sem, BigFrame.eval_const, BigFrame.eval_global, BigFrame.eval_func, ↓IntWalk.iteOmega, ev e5, ev e24, a0, a1, a2, q0, q1, q2]
          with_reducible rfl
        apply Build.detg 29 Ext.refl (by rfl) (by rfl) rfl rfl
        case h =>   -- 8: t29 := Op.binOp BinOp.eql 31 (tmp 27) (tmp 28) 31
          intro ax wx hE hR hF
          have e24 : ax.eval (.tmp 24) = _ := hF 3 (det 24 _) (by decide) (.tail _ (.tail _ (.tail _ (.tail _ (.head _)))))
          have e27 : ax.eval (.tmp 27) = _ := hF 6 (det 27 _) (by decide) (.tail _ (.head _))
          have e28 : ax.eval (.tmp 28) = _ := hF 7 (det 28 _) (by decide) (.head _)
          refine ⟨e24, ?_⟩
          simp [go_sem, BigFrame.eval_const, BigFrame.eval_global, BigFrame.eval_func, ↓IntWalk.iteOmega, ev e24, ev e27, ev e28, HEQ1.out]
          with_reducible rfl
        apply Build.det 30 Ext.refl (by rfl) (by rfl) rfl
        case h =>   -- 9: t30 := Op.pick (tmp 24) (tmp 29) (const (Value.bool false))
          intro ax wx hE hR hF
          have e24 : ax.eval (.tmp 24) = _ := hF 3 (det 24 _) (by decide) (.tail _ (.tail _ (.tail _ (.tail _ (.tail _ (.head _))))))
          have e29 : ax.eval (.tmp 29) = _ := hF 8 (det 29 _) (by decide) (.head _)
          simp [go_sem, BigFrame.eval_const, BigFrame.eval_global, BigFrame.eval_func, ↓IntWalk.iteOmega, ev e24, ev e29]
          with_reducible rfl
        apply Build.det 31 Ext.refl (by rfl) (by rfl) rfl
        case h =>   -- 10: t31 := Op.move (tmp 30)
          intro ax wx hE hR hF
          have e30 : ax.eval (.tmp 30) = _ := hF 9 (det 30 _) (by decide) (.head _)
          simp [go_sem, BigFrame.eval_const, BigFrame.eval_global, BigFrame.eval_func, ↓IntWalk.iteOmega, ev e30]
          with_reducible rfl
        apply Build.detg 32 Ext.refl (by rfl) (by rfl) rfl rfl
        case h =>   -- 11: t32 := Op.move (tmp 8)
          intro ax wx hE hR hF
          have e8 : ax.eval (.tmp 8) = .slice B2 0 cap2 := hE.eval 8 (by rfl) rfl
          have e31 : ax.eval (.tmp 31) = _ := hF 10 (det 31 _) (by decide) (.head _)
          refine ⟨e31, ?_⟩
          simp [go_sem, BigFrame.eval_const, BigFrame.eval_global, BigFrame.eval_func, ↓IntWalk.iteOmega, ev e8, ev e31]
          with_reducible rfl
        apply Build.detg 33 Ext.refl (by rfl) (by rfl) rfl rfl
        case h =>   -- 12: t33 := Op.call {callee := Callee.builtin Builtin.len, args := #[tmp 32], argT
          intro ax wx hE hR hF
          have e31 : ax.eval (.tmp 31) = _ := hF 10 (det 31 _) (by decide) (.tail _ (.head _))
          have e32 : ax.eval (.tmp 32) = _ := hF 11 (det 32 _) (by decide) (.head _)
          refine ⟨e31, ?_⟩
          simp [go_sem, BigFrame.eval_const, BigFrame.eval_global, BigFrame.eval_func, ↓IntWalk.iteOmega, ev e31, ev e32]
          with_reducible rfl
        apply Build.detg 34 Ext.refl (by rfl) (by rfl) rfl rfl
        case h =>   -- 13: t34 := Op.binOp BinOp.eql 3 (tmp 33) (const (Value.int IntKind.i64 0)) 3
          intro ax wx hE hR hF
          have e31 : ax.eval (.tmp 31) = _ := hF 10 (det 31 _) (by decide) (.tail _ (.tail _ (.head _)))
          have e33 : ax.eval (.tmp 33) = _ := hF 12 (det 33 _) (by decide) (.head _)
          refine ⟨e31, ?_⟩
          simp [go_sem, BigFrame.eval_const, BigFrame.eval_global, BigFrame.eval_func, ↓IntWalk.iteOmega, ev e31, ev e33]
          with_reducible rfl
        apply Build.detg 35 Ext.refl (by rfl) (by rfl) rfl rfl
        case h =>   -- 14: t35 := Op.move (tmp 34)
          intro ax wx hE hR hF
          have e31 : ax.eval (.tmp 31) = _ := hF 10 (det 31 _) (by decide) (.tail _ (.tail _ (.tail _ (.head _))))
          have e34 : ax.eval (.tmp 34) = _ := hF 13 (det 34 _) (by decide) (.head _)
          refine ⟨e31, ?_⟩
          simp [go_sem, BigFrame.eval_const, BigFrame.eval_global, BigFrame.eval_func, ↓IntWalk.iteOmega, ev e31, ev e34]
          with_reducible rfl
        refine Build.skip 36 (by rfl) (by rfl) rfl rfl ?_ ?_
        · intro ax wx hE hR hF
          have e8 : ax.eval (.tmp 8) = .slice B2 0 cap2 := hE.eval 8 (by rfl) rfl
          have e35 : ax.eval (.tmp 35) = _ := hF 14 (det 35 _) (by decide) (.head _)
          exact e35
        refine Build.skip 37 (by rfl) (by rfl) rfl rfl ?_ ?_
        · intro ax wx hE hR hF
          have e35 : ax.eval (.tmp 35) = _ := hF 14 (det 35 _) (by decide) (.tail _ (.head _))
          have e36 : ax.eval (.tmp 36) = _ := hF 15 (det 36 _) (by decide) (.head _)
          exact e35
        refine Build.skip 38 (by rfl) (by rfl) rfl rfl ?_ ?_
        · intro ax wx hE hR hF
          have e35 : ax.eval (.tmp 35) = _ := hF 14 (det 35 _) (by decide) (.tail _ (.tail _ (.head _)))
          have e37 : ax.eval (.tmp 37) = _ := hF 16 (det 37 _) (by decide) (.head _)
          exact e35
        refine Build.skip 39 (by rfl) (by rfl) rfl rfl ?_ ?_
        · intro ax wx hE hR hF
          have e35 : ax.eval (.tmp 35) = _ := hF 14 (det 35 _) (by decide) (.tail _ (.tail _ (.tail _ (.head _))))
          have e38 : ax.eval (.tmp 38) = _ := hF 17 (det 38 _) (by decide) (.head _)
          exact e35
        refine Build.skipu 40 (by rfl) (by rfl) rfl rfl ?_ ?_
        · intro ax wx hE hR hF
          have e8 : ax.eval (.tmp 8) = .slice B2 0 cap2 := hE.eval 8 (by rfl) rfl
          have e39 : ax.eval (.tmp 39) = _ := hF 18 (det 39 _) (by decide) (.head _)
          exact e39
        refine Build.skipu 41 (by rfl) (by rfl) rfl rfl ?_ ?_
        · intro ax wx hE hR hF
          have e39 : ax.eval (.tmp 39) = _ := hF 18 (det 39 _) (by decide) (.tail _ (.head _))
          have e40 : ax.eval (.tmp 40) = _ := hF 19 (det 40 _) (by decide) (.head _)
          exact e39
        refine Build.skipu 42 (by rfl) (by rfl) rfl rfl ?_ ?_
        · intro ax wx hE hR hF
          have e39 : ax.eval (.tmp 39) = _ := hF 18 (det 39 _) (by decide) (.tail _ (.tail _ (.head _)))
          have e41 : ax.eval (.tmp 41) = _ := hF 20 (det 41 _) (by decide) (.head _)
          exact e39
        refine Build.skipu 43 (by rfl) (by rfl) rfl rfl ?_ ?_
        · intro ax wx hE hR hF
          have e5 : ax.eval (.tmp 5) = .pointer (some ⟨g, 0, none⟩) := hE.eval 5 (by rfl) rfl
          have e39 : ax.eval (.tmp 39) = _ := hF 18 (det 39 _) (by decide) (.tail _ (.tail _ (.tail _ (.head _))))
          exact e39
        refine Build.skipu 44 (by rfl) (by rfl) rfl rfl ?_ ?_
        · intro ax wx hE hR hF
          have e39 : ax.eval (.tmp 39) = _ := hF 18 (det 39 _) (by decide) (.tail _ (.tail _ (.tail _ (.tail _ (.head _)))))
          have e42 : ax.eval (.tmp 42) = _ := hF 21 (det 42 _) (by decide) (.tail _ (.head _))
          have e43 : ax.eval (.tmp 43) = _ := hF 22 (det 43 _) (by decide) (.head _)
          exact e39
        refine Build.skip 45 (by rfl) (by rfl) rfl rfl ?_ ?_
        · intro ax wx hE hR hF
          have e35 : ax.eval (.tmp 35) = _ := hF 14 (det 35 _) (by decide) (.tail _ (.tail _ (.tail _ (.tail _ (.tail _ (.tail _ (.tail _ (.tail _ (.tail _ (.head _))))))))))
          have e39 : ax.eval (.tmp 39) = _ := hF 18 (det 39 _) (by decide) (.tail _ (.tail _ (.tail _ (.tail _ (.tail _ (.head _))))))
          have e44 : ax.eval (.tmp 44) = _ := hF 23 (det 44 _) (by decide) (.head _)
          exact e35
        apply Build.detg 46 Ext.refl (by rfl) (by rfl) rfl rfl
        case h =>   -- 25: t46 := Op.pick (tmp 35) (const (Value.bool true)) (tmp 45)
          intro ax wx hE hR hF
          have e31 : ax.eval (.tmp 31) = _ := hF 10 (det 31 _) (by decide) (.tail _ (.tail _ (.tail _ (.tail _ (.tail _ (.tail _ (.tail _ (.tail _ (.tail _ (.tail _ (.tail _ (.tail _ (.tail _ (.tail _ (.head _)))))))))))))))
          have e35 : ax.eval (.tmp 35) = _ := hF 14 (det 35 _) (by decide) (.tail _ (.tail _ (.tail _ (.tail _ (.tail _ (.tail _ (.tail _ (.tail _ (.tail _ (.tail _ (.head _)))))))))))
          have e45 : ax.eval (.tmp 45) = _ := hF 24 (det 45 _) (by decide) (.head _)
          refine ⟨e31, ?_⟩
          simp [go_sem, BigFrame.eval_const, BigFrame.eval_global, BigFrame.eval_func, ↓IntWalk.iteOmega, ev e31, ev e35, ev e45]
          with_reducible rfl
        apply Build.det 47 Ext.refl (by rfl) (by rfl) rfl
        case h =>   -- 26: t47 := Op.pick (tmp 31) (tmp 46) (const (Value.bool false))
          intro ax wx hE hR hF
          have e31 : ax.eval (.tmp 31) = _ := hF 10 (det 31 _) (by decide) (.tail _ (.tail _ (.tail _ (.tail _ (.tail _ (.tail _ (.tail _ (.tail _ (.tail _ (.tail _ (.tail _ (.tail _ (.tail _ (.tail _ (.tail _ (.head _))))))))))))))))
          have e46 : ax.eval (.tmp 46) = _ := hF 25 (det 46 _) (by decide) (.head _)
          simp [go_sem, BigFrame.eval_const, BigFrame.eval_global, BigFrame.eval_func, ↓IntWalk.iteOmega, ev e31, ev e46]
          with_reducible rfl
        apply Build.stop
        refine ⟨by kernel_rfl, .inr ⟨by kernel_rfl, _, rfl, rfl, ?_⟩⟩
        intro ax w4 hE R4 hF
        have e21 : ax.eval (.tmp 21) = _ := hF 0 (det 21 _) (.tail _ (.tail _ (.tail _ (.tail _ (.tail _ (.tail _ (.tail _ (.tail _ (.tail _ (.tail _ (.tail _ (.tail _ (.tail _ (.tail _ (.tail _ (.tail _ (.tail _ (.tail _ (.tail _ (.tail _ (.tail _ (.tail _ (.tail _ (.tail _ (.tail _ (.tail _ (.head _)))))))))))))))))))))))))))
        have e22 : ax.eval (.tmp 22) = _ := hF 1 (det 22 _) (.tail _ (.tail _ (.tail _ (.tail _ (.tail _ (.tail _ (.tail _ (.tail _ (.tail _ (.tail _ (.tail _ (.tail _ (.tail _ (.tail _ (.tail _ (.tail _ (.tail _ (.tail _ (.tail _ (.tail _ (.tail _ (.tail _ (.tail _ (.tail _ (.tail _ (.head _))))))))))))))))))))))))))
        have e23 : ax.eval (.tmp 23) = _ := hF 2 (det 23 _) (.tail _ (.tail _ (.tail _ (.tail _ (.tail _ (.tail _ (.tail _ (.tail _ (.tail _ (.tail _ (.tail _ (.tail _ (.tail _ (.tail _ (.tail _ (.tail _ (.tail _ (.tail _ (.tail _ (.tail _ (.tail _ (.tail _ (.tail _ (.tail _ (.head _)))))))))))))))))))))))))
        have e24 : ax.eval (.tmp 24) = _ := hF 3 (det 24 _) (.tail _ (.tail _ (.tail _ (.tail _ (.tail _ (.tail _ (.tail _ (.tail _ (.tail _ (.tail _ (.tail _ (.tail _ (.tail _ (.tail _ (.tail _ (.tail _ (.tail _ (.tail _ (.tail _ (.tail _ (.tail _ (.tail _ (.tail _ (.head _))))))))))))))))))))))))
        have e25 : ax.eval (.tmp 25) = _ := hF 4 (det 25 _) (.tail _ (.tail _ (.tail _ (.tail _ (.tail _ (.tail _ (.tail _ (.tail _ (.tail _ (.tail _ (.tail _ (.tail _ (.tail _ (.tail _ (.tail _ (.tail _ (.tail _ (.tail _ (.tail _ (.tail _ (.tail _ (.tail _ (.head _)))))))))))))))))))))))
        have e26 : ax.eval (.tmp 26) = _ := hF 5 (det 26 _) (.tail _ (.tail _ (.tail _ (.tail _ (.tail _ (.tail _ (.tail _ (.tail _ (.tail _ (.tail _ (.tail _ (.tail _ (.tail _ (.tail _ (.tail _ (.tail _ (.tail _ (.tail _ (.tail _ (.tail _ (.tail _ (.head _))))))))))))))))))))))
        have e27 : ax.eval (.tmp 27) = _ := hF 6 (det 27 _) (.tail _ (.tail _ (.tail _ (.tail _ (.tail _ (.tail _ (.tail _ (.tail _ (.tail _ (.tail _ (.tail _ (.tail _ (.tail _ (.tail _ (.tail _ (.tail _ (.tail _ (.tail _ (.tail _ (.tail _ (.head _)))))))))))))))))))))
        have e28 : ax.eval (.tmp 28) = _ := hF 7 (det 28 _) (.tail _ (.tail _ (.tail _ (.tail _ (.tail _ (.tail _ (.tail _ (.tail _ (.tail _ (.tail _ (.tail _ (.tail _ (.tail _ (.tail _ (.tail _ (.tail _ (.tail _ (.tail _ (.tail _ (.head _))))))))))))))))))))
        have e29 : ax.eval (.tmp 29) = _ := hF 8 (det 29 _) (.tail _ (.tail _ (.tail _ (.tail _ (.tail _ (.tail _ (.tail _ (.tail _ (.tail _ (.tail _ (.tail _ (.tail _ (.tail _ (.tail _ (.tail _ (.tail _ (.tail _ (.tail _ (.head _)))))))))))))))))))
        have e30 : ax.eval (.tmp 30) = _ := hF 9 (det 30 _) (.tail _ (.tail _ (.tail _ (.tail _ (.tail _ (.tail _ (.tail _ (.tail _ (.tail _ (.tail _ (.tail _ (.tail _ (.tail _ (.tail _ (.tail _ (.tail _ (.tail _ (.head _))))))))))))))))))
        have e31 : ax.eval (.tmp 31) = _ := hF 10 (det 31 _) (.tail _ (.tail _ (.tail _ (.tail _ (.tail _ (.tail _ (.tail _ (.tail _ (.tail _ (.tail _ (.tail _ (.tail _ (.tail _ (.tail _ (.tail _ (.tail _ (.head _)))))))))))))))))
        have e32 : ax.eval (.tmp 32) = _ := hF 11 (det 32 _) (.tail _ (.tail _ (.tail _ (.tail _ (.tail _ (.tail _ (.tail _ (.tail _ (.tail _ (.tail _ (.tail _ (.tail _ (.tail _ (.tail _ (.tail _ (.head _))))))))))))))))
        have e33 : ax.eval (.tmp 33) = _ := hF 12 (det 33 _) (.tail _ (.tail _ (.tail _ (.tail _ (.tail _ (.tail _ (.tail _ (.tail _ (.tail _ (.tail _ (.tail _ (.tail _ (.tail _ (.tail _ (.head _)))))))))))))))
        have e34 : ax.eval (.tmp 34) = _ := hF 13 (det 34 _) (.tail _ (.tail _ (.tail _ (.tail _ (.tail _ (.tail _ (.tail _ (.tail _ (.tail _ (.tail _ (.tail _ (.tail _ (.tail _ (.head _))))))))))))))
        have e35 : ax.eval (.tmp 35) = _ := hF 14 (det 35 _) (.tail _ (.tail _ (.tail _ (.tail _ (.tail _ (.tail _ (.tail _ (.tail _ (.tail _ (.tail _ (.tail _ (.tail _ (.head _)))))))))))))
        have e36 : ax.eval (.tmp 36) = _ := hF 15 (det 36 _) (.tail _ (.tail _ (.tail _ (.tail _ (.tail _ (.tail _ (.tail _ (.tail _ (.tail _ (.tail _ (.tail _ (.head _))))))))))))
        have e37 : ax.eval (.tmp 37) = _ := hF 16 (det 37 _) (.tail _ (.tail _ (.tail _ (.tail _ (.tail _ (.tail _ (.tail _ (.tail _ (.tail _ (.tail _ (.head _)))))))))))
        have e38 : ax.eval (.tmp 38) = _ := hF 17 (det 38 _) (.tail _ (.tail _ (.tail _ (.tail _ (.tail _ (.tail _ (.tail _ (.tail _ (.tail _ (.head _))))))))))
        have e39 : ax.eval (.tmp 39) = _ := hF 18 (det 39 _) (.tail _ (.tail _ (.tail _ (.tail _ (.tail _ (.tail _ (.tail _ (.tail _ (.head _)))))))))
        have e40 : ax.eval (.tmp 40) = _ := hF 19 (det 40 _) (.tail _ (.tail _ (.tail _ (.tail _ (.tail _ (.tail _ (.tail _ (.head _))))))))
        have e41 : ax.eval (.tmp 41) = _ := hF 20 (det 41 _) (.tail _ (.tail _ (.tail _ (.tail _ (.tail _ (.tail _ (.head _)))))))
        have e42 : ax.eval (.tmp 42) = _ := hF 21 (det 42 _) (.tail _ (.tail _ (.tail _ (.tail _ (.tail _ (.head _))))))
        have e43 : ax.eval (.tmp 43) = _ := hF 22 (det 43 _) (.tail _ (.tail _ (.tail _ (.tail _ (.head _)))))
        have e44 : ax.eval (.tmp 44) = _ := hF 23 (det 44 _) (.tail _ (.tail _ (.tail _ (.head _))))
        have e45 : ax.eval (.tmp 45) = _ := hF 24 (det 45 _) (.tail _ (.tail _ (.head _)))
        have e46 : ax.eval (.tmp 46) = _ := hF 25 (det 46 _) (.tail _ (.head _))
        have e47 : ax.eval (.tmp 47) = _ := hF 26 (det 47 _) (.head _)
        rw [AllEq.frame (D := [21, 22, 23, 24, 25, 26, 27, 28, 29, 30, 31, 32, 33, 34, 35, 36, 37, 38, 39, 40, 41, 42, 43, 44, 45, 46, 47]) (AllEq.cons e21 (AllEq.cons e22 (AllEq.cons e23 (AllEq.cons e24 (AllEq.cons e25 (AllEq.cons e26 (AllEq.cons e27 (AllEq.cons e28 (AllEq.cons e29 (AllEq.cons e30 (AllEq.cons e31 (AllEq.cons e32 (AllEq.cons e33 (AllEq.cons e34 (AllEq.cons e35 (AllEq.cons e36 (AllEq.cons e37 (AllEq.cons e38 (AllEq.cons e39 (AllEq.cons e40 (AllEq.cons e41 (AllEq.cons e42 (AllEq.cons e43 (AllEq.cons e44 (AllEq.cons e45 (AllEq.cons e46 (AllEq.cons e47 (AllEq.nil)))))))))))))))))))))))))))) hE rfl]
        clear hF hE e21 e22 e23 e24 e25 e26 e27 e28 e29 e30 e31 e32 e33 e34 e35 e36 e37 e38 e39 e40 e41 e42 e43 e44 e45 e46 e47
        simp only [List.foldl_cons, List.foldl_nil, Act.put, List.setIfInBounds_toArray, List.set_cons_succ, List.set_cons_zero]
        have HE4 := Lib.hid (HE3.out.trans R4)
        clear R4 HQ1 HQ2
        go_wp2_with fail
        go_ret
        exact ⟨by rw [HRES.out]; rfl, HE4.out⟩
      · have d2 : ((n2 : Int) == 0) = false := by rw [beq_eq_false_iff_ne]; omega
        by_cases h3 : n2 = 1
        · subst h3
          obtain ⟨b2, off2, rfl, -, -, -⟩ := HQ2.out w3 (Ext.refl _) HN2.out
          obtain ⟨z2, hz2⟩ : ∃ z : Bool, decide (((atO Y 0).1, (atO Y 0).2.1, (atO Y 0).2.2) = (o1, o2, o3)) = z := ⟨_, rfl⟩
          have HEQ2 := Lib.hid (fun W => hz2 ▸ eq_own 9998 (atO Y 0).1 (atO Y 0).2.1 (atO Y 0).2.2 o1 o2 o3 W)
          have HZ2 := Lib.hid (show decide (atO Y 0 = (o1, o2, o3)) = z2 from hz2)
          obtain ⟨u1, hu1⟩ : ∃ y, (atO Y 0).1 = y := ⟨_, rfl⟩
          obtain ⟨u2, hu2⟩ : ∃ y, (atO Y 0).2.1 = y := ⟨_, rfl⟩
          obtain ⟨u3, hu3⟩ : ∃ y, (atO Y 0).2.2 = y := ⟨_, rfl⟩
          simp only [hu1, hu2, hu3] at HEQ2 HQ2
          clear hz2 hu1 hu2 hu3
          have hres : r = z2 := by rw [← HR.out, HZ1.out, HZ2.out]; simp
          have HRES := Lib.hid hres
          clear hres
          refine wp_typed (R := Ext) (w0 := w3) [[], [0], [0, 1], [0, 1, 2], [0, 1, 2, 3], [0, 1, 2, 3, 4], [0, 1, 2, 3, 4, 5], [0, 1, 2, 3], [0, 1, 2, 3, 4, 5, 6, 7], [0, 1, 2, 3, 4, 5, 6, 7, 8], [0, 1, 2, 3, 4, 5, 6, 7, 8, 9], [0, 1, 2, 3, 4, 5, 6, 7, 8, 9, 10], [0, 1, 2, 3, 4, 5, 6, 7, 8, 9, 10, 11], [0, 1, 2, 3, 4, 5, 6, 7, 8, 9, 10, 11, 12], [0, 1, 2, 3, 4, 5, 6, 7, 8, 9, 10, 11, 12, 13], [0, 1, 2, 3, 4, 5, 6, 7, 8, 9, 10, 11, 12, 13, 14], [0, 1, 2, 3, 4, 5, 6, 7, 8, 9, 10, 11, 12, 13, 14, 15], [0, 1, 2, 3, 4, 5, 6, 7, 8, 9, 10, 11, 12, 13, 14, 15, 16], [0, 1, 2, 3, 4, 5, 6, 7, 8, 9, 10, 11, 12, 13, 14, 15, 16, 17], [0, 1, 2, 3, 4, 5, 6, 7, 8, 9, 10, 11, 12, 13, 14, 15, 16, 17, 18], [0, 1, 2, 3, 4, 5, 6, 7, 8, 9, 10, 11, 12, 13, 14, 15, 16, 17, 18, 19], [0, 1, 2, 3, 4, 5, 6, 7, 8, 9, 10, 11, 12, 13, 14, 15, 16, 17, 18, 19, 20], [0, 1, 2, 3, 4, 5, 6, 7, 8, 9, 10, 11, 12, 13, 14, 15, 16, 17, 18], [0, 1, 2, 3, 4, 5, 6, 7, 8, 9, 10, 11, 12, 13, 14, 15, 16, 17, 18, 19, 20, 21, 22], [0, 1, 2, 3, 4, 5, 6, 7, 8, 9, 10, 11, 12, 13, 14, 15, 16, 17, 18, 19, 20, 21, 22, 23], [0, 1, 2, 3, 4, 5, 6, 7, 8, 9, 10, 11, 12, 13, 14, 15, 16, 17, 18, 19, 20, 21, 22, 23, 24], [0, 1, 2, 3, 4, 5, 6, 7, 8, 9, 10, 11, 12, 13, 14, 15, 16, 17, 18, 19, 20, 21, 22, 23, 24, 25], [0, 1, 2, 3, 4, 5, 6, 7, 8, 9, 10, 11, 12, 13, 14, 15, 16, 17, 18, 19, 20, 21, 22, 23, 24, 25, 26]] [21, 22, 23, 24, 25, 26, 27, 28, 29, 30, 31, 32, 33, 34, 35, 36, 37, 38, 39, 40, 41, 42, 43, 44, 45, 46, 47] Ext.refl (fun _ _ _ => Ext.trans) (Ext.drew _) (by kernel_rfl) ?_
          apply Build.det 21 Ext.refl (by rfl) (by rfl) rfl
          case h =>   -- 0: t21 := Op.move (tmp 7)
            intro ax wx hE hR hF
            have e7 : ax.eval (.tmp 7) = .slice (some ⟨b1, off1, none⟩) 1 cap1 := hE.eval 7 (by rfl) rfl
            simp [go_sem, BigFrame.eval_const, BigFrame.eval_global, BigFrame.eval_func, ↓IntWalk.iteOmega, ev e7]
            with_reducible rfl
          apply Build.det 22 Ext.refl (by rfl) (by rfl) rfl
          case h =>   -- 1: t22 := Op.call {callee := Callee.builtin Builtin.len, args := #[tmp 21], argT
            intro ax wx hE hR hF
            have e21 : ax.eval (.tmp 21) = _ := hF 0 (det 21 _) (by decide) (.head _)
            simp [go_sem, BigFrame.eval_const, BigFrame.eval_global, BigFrame.eval_func, ↓IntWalk.iteOmega, ev e21]
            with_reducible rfl
          apply Build.det 23 Ext.refl (by rfl) (by rfl) rfl
          case h =>   -- 2: t23 := Op.binOp BinOp.eql 3 (tmp 22) (const (Value.int IntKind.i64 1)) 3
            intro ax wx hE hR hF
            have e22 : ax.eval (.tmp 22) = _ := hF 1 (det 22 _) (by decide) (.head _)
            simp [go_sem, BigFrame.eval_const, BigFrame.eval_global, BigFrame.eval_func, ↓IntWalk.iteOmega, ev e22]
            with_reducible rfl
          apply Build.det 24 Ext.refl (by rfl) (by rfl) rfl
          case h =>   -- 3: t24 := Op.move (tmp 23)
            intro ax wx hE hR hF
            have e23 : ax.eval (.tmp 23) = _ := hF 2 (det 23 _) (by decide) (.head _)
            simp [go_sem, BigFrame.eval_const, BigFrame.eval_global, BigFrame.eval_func, ↓IntWalk.iteOmega, ev e23]
            with_reducible rfl
          apply Build.detg 25 Ext.refl (by rfl) (by rfl) rfl rfl
          case h =>   -- 4: t25 := Op.move (tmp 7)
            intro ax wx hE hR hF
            have e7 : ax.eval (.tmp 7) = .slice (some ⟨b1, off1, none⟩) 1 cap1 := hE.eval 7 (by rfl) rfl
            have e24 : ax.eval (.tmp 24) = _ := hF 3 (det 24 _) (by decide) (.head _)
            refine ⟨e24, ?_⟩
            simp [go_sem, BigFrame.eval_const, BigFrame.eval_global, BigFrame.eval_func, ↓IntWalk.iteOmega, ev e7, ev e24]
            with_reducible rfl
          apply Build.detg 26 Ext.refl (by rfl) (by rfl) rfl rfl
          case h =>   -- 5: t26 := Op.indexAddr 42 (tmp 25) (const (Value.int IntKind.i64 0))
            intro ax wx hE hR hF
            have e24 : ax.eval (.tmp 24) = _ := hF 3 (det 24 _) (by decide) (.tail _ (.head _))
            have e25 : ax.eval (.tmp 25) = _ := hF 4 (det 25 _) (by decide) (.head _)
            refine ⟨e24, ?_⟩
            simp [go_sem, BigFrame.eval_const, BigFrame.eval_global, BigFrame.eval_func, ↓IntWalk.iteOmega, ev e24, ev e25]
            with_reducible rfl
          apply Build.detg 27 Ext.refl (by rfl) (by rfl) rfl rfl
          case h =>   -- 6: t27 := Op.load 31 (tmp 26)
            intro ax wx hE hR hF
            have e24 : ax.eval (.tmp 24) = _ := hF 3 (det 24 _) (by decide) (.tail _ (.tail _ (.head _)))
            have e26 : ax.eval (.tmp 26) = _ := hF 5 (det 26 _) (by decide) (.head _)
            have hB := HB3.out.ext hR; have a0 := hB.cell 0; have a1 := hB.cell 1; have a2 := hB.cell 2; simp at a0 a1 a2; obtain ⟨_, _, hA1, q0, q1, q2⟩ := HQ1.out wx hR HN1.out; cases hA1; obtain ⟨_, _, hA2, r0, r1, r2⟩ := HQ2.out wx hR HN2.out; cases hA2
            refine ⟨e24, ?_⟩
            simp [go_sem, BigFrame.eval_const, BigFrame.eval_global, BigFrame.eval_func, ↓IntWalk.iteOmega, ev e24, ev e26, a0, a1, a2, q0, q1, q2, r0, r1, r2]
            with_reducible rfl
          apply Build.detg 28 Ext.refl (by rfl) (by rfl) rfl rfl
          case h =>   -- 7: t28 := Op.load 31 (tmp 5)
            intro ax wx hE hR hF
            have e5 : ax.eval (.tmp 5) = .pointer (some ⟨g, 0, none⟩) := hE.eval 5 (by rfl) rfl
            have e24 : ax.eval (.tmp 24) = _ := hF 3 (det 24 _) (by decide) (.tail _ (.tail _ (.tail _ (.head _))))
            have hB := HB3.out.ext hR; have a0 := hB.cell 0; have a1 := hB.cell 1; have a2 := hB.cell 2; simp at a0 a1 a2; obtain ⟨_, _, hA1, q0, q1, q2⟩ := HQ1.out wx hR HN1.out; cases hA1; obtain ⟨_, _, hA2, r0, r1, r2⟩ := HQ2.out wx hR HN2.out; cases hA2
            refine ⟨e24, ?_⟩
            simp [go_sem, BigFrame.eval_const, BigFrame.eval_global, BigFrame.eval_func, ↓IntWalk.iteOmega, ev e5, ev e24, a0, a1, a2, q0, q1, q2, r0, r1, r2]
            with_reducible rfl
          apply Build.detg 29 Ext.refl (by rfl) (by rfl) rfl rfl
          case h =>   -- 8: t29 := Op.binOp BinOp.eql 31 (tmp 27) (tmp 28) 31
            intro ax wx hE hR hF
            have e24 : ax.eval (.tmp 24) = _ := hF 3 (det 24 _) (by decide) (.tail _ (.tail _ (.tail _ (.tail _ (.head _)))))
            have e27 : ax.eval (.tmp 27) = _ := hF 6 (det 27 _) (by decide) (.tail _ (.head _))
            have e28 : ax.eval (.tmp 28) = _ := hF 7 (det 28 _) (by decide) (.head _)
            refine ⟨e24, ?_⟩
            simp [go_sem, BigFrame.eval_const, BigFrame.eval_global, BigFrame.eval_func, ↓IntWalk.iteOmega, ev e24, ev e27, ev e28, HEQ1.out]
            with_reducible rfl
          apply Build.det 30 Ext.refl (by rfl) (by rfl) rfl
          case h =>   -- 9: t30 := Op.pick (tmp 24) (tmp 29) (const (Value.bool false))
            intro ax wx hE hR hF
            have e24 : ax.eval (.tmp 24) = _ := hF 3 (det 24 _) (by decide) (.tail _ (.tail _ (.tail _ (.tail _ (.tail _ (.head _))))))
            have e29 : ax.eval (.tmp 29) = _ := hF 8 (det 29 _) (by decide) (.head _)
            simp [go_sem, BigFrame.eval_const, BigFrame.eval_global, BigFrame.eval_func, ↓IntWalk.iteOmega, ev e24, ev e29]
            with_reducible rfl
          apply Build.det 31 Ext.refl (by rfl) (by rfl) rfl
          case h =>   -- 10: t31 := Op.move (tmp 30)
            intro ax wx hE hR hF
            have e30 : ax.eval (.tmp 30) = _ := hF 9 (det 30 _) (by decide) (.head _)
            simp [go_sem, BigFrame.eval_const, BigFrame.eval_global, BigFrame.eval_func, ↓IntWalk.iteOmega, ev e30]
            with_reducible rfl
          apply Build.detg 32 Ext.refl (by rfl) (by rfl) rfl rfl
          case h =>   -- 11: t32 := Op.move (tmp 8)
            intro ax wx hE hR hF
            have e8 : ax.eval (.tmp 8) = .slice (some ⟨b2, off2, none⟩) 1 cap2 := hE.eval 8 (by rfl) rfl
            have e31 : ax.eval (.tmp 31) = _ := hF 10 (det 31 _) (by decide) (.head _)
            refine ⟨e31, ?_⟩
            simp [go_sem, BigFrame.eval_const, BigFrame.eval_global, BigFrame.eval_func, ↓IntWalk.iteOmega, ev e8, ev e31]
            with_reducible rfl
          apply Build.detg 33 Ext.refl (by rfl) (by rfl) rfl rfl
          case h =>   -- 12: t33 := Op.call {callee := Callee.builtin Builtin.len, args := #[tmp 32], argT
            intro ax wx hE hR hF
            have e31 : ax.eval (.tmp 31) = _ := hF 10 (det 31 _) (by decide) (.tail _ (.head _))
            have e32 : ax.eval (.tmp 32) = _ := hF 11 (det 32 _) (by decide) (.head _)
            refine ⟨e31, ?_⟩
            simp [go_sem, BigFrame.eval_const, BigFrame.eval_global, BigFrame.eval_func, ↓IntWalk.iteOmega, ev e31, ev e32]
            with_reducible rfl
          apply Build.detg 34 Ext.refl (by rfl) (by rfl) rfl rfl
          case h =>   -- 13: t34 := Op.binOp BinOp.eql 3 (tmp 33) (const (Value.int IntKind.i64 0)) 3
            intro ax wx hE hR hF
            have e31 : ax.eval (.tmp 31) = _ := hF 10 (det 31 _) (by decide) (.tail _ (.tail _ (.head _)))
            have e33 : ax.eval (.tmp 33) = _ := hF 12 (det 33 _) (by decide) (.head _)
            refine ⟨e31, ?_⟩
            simp [go_sem, BigFrame.eval_const, BigFrame.eval_global, BigFrame.eval_func, ↓IntWalk.iteOmega, ev e31, ev e33]
            with_reducible rfl
          apply Build.detg 35 Ext.refl (by rfl) (by rfl) rfl rfl
          case h =>   -- 14: t35 := Op.move (tmp 34)
            intro ax wx hE hR hF
            have e31 : ax.eval (.tmp 31) = _ := hF 10 (det 31 _) (by decide) (.tail _ (.tail _ (.tail _ (.head _))))
            have e34 : ax.eval (.tmp 34) = _ := hF 13 (det 34 _) (by decide) (.head _)
            refine ⟨e31, ?_⟩
            simp [go_sem, BigFrame.eval_const, BigFrame.eval_global, BigFrame.eval_func, ↓IntWalk.iteOmega, ev e31, ev e34]
            with_reducible rfl
          apply Build.detg 36 Ext.refl (by rfl) (by rfl) rfl rfl
          case h =>   -- 15: t36 := Op.move (tmp 8)
            intro ax wx hE hR hF
            have e8 : ax.eval (.tmp 8) = .slice (some ⟨b2, off2, none⟩) 1 cap2 := hE.eval 8 (by rfl) rfl
            have e35 : ax.eval (.tmp 35) = _ := hF 14 (det 35 _) (by decide) (.head _)
            refine ⟨e35, ?_⟩
            simp [go_sem, BigFrame.eval_const, BigFrame.eval_global, BigFrame.eval_func, ↓IntWalk.iteOmega, ev e8, ev e35]
            with_reducible rfl
          apply Build.detg 37 Ext.refl (by rfl) (by rfl) rfl rfl
          case h =>   -- 16: t37 := Op.call {callee := Callee.builtin Builtin.len, args := #[tmp 36], argT
            intro ax wx hE hR hF
            have e35 : ax.eval (.tmp 35) = _ := hF 14 (det 35 _) (by decide) (.tail _ (.head _))
            have e36 : ax.eval (.tmp 36) = _ := hF 15 (det 36 _) (by decide) (.head _)
            refine ⟨e35, ?_⟩
            simp [go_sem, BigFrame.eval_const, BigFrame.eval_global, BigFrame.eval_func, ↓IntWalk.iteOmega, ev e35, ev e36]
            with_reducible rfl
          apply Build.detg 38 Ext.refl (by rfl) (by rfl) rfl rfl
          case h =>   -- 17: t38 := Op.binOp BinOp.eql 3 (tmp 37) (const (Value.int IntKind.i64 1)) 3
            intro ax wx hE hR hF
            have e35 : ax.eval (.tmp 35) = _ := hF 14 (det 35 _) (by decide) (.tail _ (.tail _ (.head _)))
            have e37 : ax.eval (.tmp 37) = _ := hF 16 (det 37 _) (by decide) (.head _)
            refine ⟨e35, ?_⟩
            simp [go_sem, BigFrame.eval_const, BigFrame.eval_global, BigFrame.eval_func, ↓IntWalk.iteOmega, ev e35, ev e37]
            with_reducible rfl
          apply Build.detg 39 Ext.refl (by rfl) (by rfl) rfl rfl
          case h =>   -- 18: t39 := Op.move (tmp 38)
            intro ax wx hE hR hF
            have e35 : ax.eval (.tmp 35) = _ := hF 14 (det 35 _) (by decide) (.tail _ (.tail _ (.tail _ (.head _))))
            have e38 : ax.eval (.tmp 38) = _ := hF 17 (det 38 _) (by decide) (.head _)
            refine ⟨e35, ?_⟩
            simp [go_sem, BigFrame.eval_const, BigFrame.eval_global, BigFrame.eval_func, ↓IntWalk.iteOmega, ev e35, ev e38]
            with_reducible rfl
          apply Build.detg 40 Ext.refl (by rfl) (by rfl) rfl rfl
          case h =>   -- 19: t40 := Op.move (tmp 8)
            intro ax wx hE hR hF
            have e8 : ax.eval (.tmp 8) = .slice (some ⟨b2, off2, none⟩) 1 cap2 := hE.eval 8 (by rfl) rfl
            have e39 : ax.eval (.tmp 39) = _ := hF 18 (det 39 _) (by decide) (.head _)
            refine ⟨e39, ?_⟩
            simp [go_sem, BigFrame.eval_const, BigFrame.eval_global, BigFrame.eval_func, ↓IntWalk.iteOmega, ev e8, ev e39]
            with_reducible rfl
          apply Build.detg 41 Ext.refl (by rfl) (by rfl) rfl rfl
          case h =>   -- 20: t41 := Op.indexAddr 42 (tmp 40) (const (Value.int IntKind.i64 0))
            intro ax wx hE hR hF
            have e39 : ax.eval (.tmp 39) = _ := hF 18 (det 39 _) (by decide) (.tail _ (.head _))
            have e40 : ax.eval (.tmp 40) = _ := hF 19 (det 40 _) (by decide) (.head _)
            refine ⟨e39, ?_⟩
            simp [go_sem, BigFrame.eval_const, BigFrame.eval_global, BigFrame.eval_func, ↓IntWalk.iteOmega, ev e39, ev e40]
            with_reducible rfl
          apply Build.detg 42 Ext.refl (by rfl) (by rfl) rfl rfl
          case h =>   -- 21: t42 := Op.load 31 (tmp 41)
            intro ax wx hE hR hF
            have e39 : ax.eval (.tmp 39) = _ := hF 18 (det 39 _) (by decide) (.tail _ (.tail _ (.head _)))
            have e41 : ax.eval (.tmp 41) = _ := hF 20 (det 41 _) (by decide) (.head _)
            have hB := HB3.out.ext hR; have a0 := hB.cell 0; have a1 := hB.cell 1; have a2 := hB.cell 2; simp at a0 a1 a2; obtain ⟨_, _, hA1, q0, q1, q2⟩ := HQ1.out wx hR HN1.out; cases hA1; obtain ⟨_, _, hA2, r0, r1, r2⟩ := HQ2.out wx hR HN2.out; cases hA2
            refine ⟨e39, ?_⟩
            simp [go_sem, BigFrame.eval_const, BigFrame.eval_global, BigFrame.eval_func, ↓IntWalk.iteOmega, ev e39, ev e41, a0, a1, a2, q0, q1, q2, r0, r1, r2]
            with_reducible rfl
          apply Build.detg 43 Ext.refl (by rfl) (by rfl) rfl rfl
          case h =>   -- 22: t43 := Op.load 31 (tmp 5)
            intro ax wx hE hR hF
            have e5 : ax.eval (.tmp 5) = .pointer (some ⟨g, 0, none⟩) := hE.eval 5 (by rfl) rfl
            have e39 : ax.eval (.tmp 39) = _ := hF 18 (det 39 _) (by decide) (.tail _ (.tail _ (.tail _ (.head _))))
            have hB := HB3.out.ext hR; have a0 := hB.cell 0; have a1 := hB.cell 1; have a2 := hB.cell 2; simp at a0 a1 a2; obtain ⟨_, _, hA1, q0, q1, q2⟩ := HQ1.out wx hR HN1.out; cases hA1; obtain ⟨_, _, hA2, r0, r1, r2⟩ := HQ2.out wx hR HN2.out; cases hA2
            refine ⟨e39, ?_⟩
            simp [go_sem, BigFrame.eval_const, BigFrame.eval_global, BigFrame.eval_func, ↓IntWalk.iteOmega, ev e5, ev e39, a0, a1, a2, q0, q1, q2, r0, r1, r2]
            with_reducible rfl
          apply Build.detg 44 Ext.refl (by rfl) (by rfl) rfl rfl
          case h =>   -- 23: t44 := Op.binOp BinOp.eql 31 (tmp 42) (tmp 43) 31
            intro ax wx hE hR hF
            have e39 : ax.eval (.tmp 39) = _ := hF 18 (det 39 _) (by decide) (.tail _ (.tail _ (.tail _ (.tail _ (.head _)))))
            have e42 : ax.eval (.tmp 42) = _ := hF 21 (det 42 _) (by decide) (.tail _ (.head _))
            have e43 : ax.eval (.tmp 43) = _ := hF 22 (det 43 _) (by decide) (.head _)
            refine ⟨e39, ?_⟩
            simp [go_sem, BigFrame.eval_const, BigFrame.eval_global, BigFrame.eval_func, ↓IntWalk.iteOmega, ev e39, ev e42, ev e43, HEQ2.out]
            with_reducible rfl
          apply Build.detg 45 Ext.refl (by rfl) (by rfl) rfl rfl
          case h =>   -- 24: t45 := Op.pick (tmp 39) (tmp 44) (const (Value.bool false))
            intro ax wx hE hR hF
            have e35 : ax.eval (.tmp 35) = _ := hF 14 (det 35 _) (by decide) (.tail _ (.tail _ (.tail _ (.tail _ (.tail _ (.tail _ (.tail _ (.tail _ (.tail _ (.head _))))))))))
            have e39 : ax.eval (.tmp 39) = _ := hF 18 (det 39 _) (by decide) (.tail _ (.tail _ (.tail _ (.tail _ (.tail _ (.head _))))))
            have e44 : ax.eval (.tmp 44) = _ := hF 23 (det 44 _) (by decide) (.head _)
            refine ⟨e35, ?_⟩
            simp [go_sem, BigFrame.eval_const, BigFrame.eval_global, BigFrame.eval_func, ↓IntWalk.iteOmega, ev e35, ev e39, ev e44]
            with_reducible rfl
          apply Build.detg 46 Ext.refl (by rfl) (by rfl) rfl rfl
          case h =>   -- 25: t46 := Op.pick (tmp 35) (const (Value.bool true)) (tmp 45)
            intro ax wx hE hR hF
            have e31 : ax.eval (.tmp 31) = _ := hF 10 (det 31 _) (by decide) (.tail _ (.tail _ (.tail _ (.tail _ (.tail _ (.tail _ (.tail _ (.tail _ (.tail _ (.tail _ (.tail _ (.tail _ (.tail _ (.tail _ (.head _)))))))))))))))
            have e35 : ax.eval (.tmp 35) = _ := hF 14 (det 35 _) (by decide) (.tail _ (.tail _ (.tail _ (.tail _ (.tail _ (.tail _ (.tail _ (.tail _ (.tail _ (.tail _ (.head _)))))))))))
            have e45 : ax.eval (.tmp 45) = _ := hF 24 (det 45 _) (by decide) (.head _)
            refine ⟨e31, ?_⟩
            simp [go_sem, BigFrame.eval_const, BigFrame.eval_global, BigFrame.eval_func, ↓IntWalk.iteOmega, ev e31, ev e35, ev e45]
            with_reducible rfl
          apply Build.det 47 Ext.refl (by rfl) (by rfl) rfl
          case h =>   -- 26: t47 := Op.pick (tmp 31) (tmp 46) (const (Value.bool false))
            intro ax wx hE hR hF
            have e31 : ax.eval (.tmp 31) = _ := hF 10 (det 31 _) (by decide) (.tail _ (.tail _ (.tail _ (.tail _ (.tail _ (.tail _ (.tail _ (.tail _ (.tail _ (.tail _ (.tail _ (.tail _ (.tail _ (.tail _ (.tail _ (.head _))))))))))))))))
            have e46 : ax.eval (.tmp 46) = _ := hF 25 (det 46 _) (by decide) (.head _)
            simp [go_sem, BigFrame.eval_const, BigFrame.eval_global, BigFrame.eval_func, ↓IntWalk.iteOmega, ev e31, ev e46]
            with_reducible rfl
          apply Build.stop
          refine ⟨by kernel_rfl, .inr ⟨by kernel_rfl, _, rfl, rfl, ?_⟩⟩
          intro ax w4 hE R4 hF
          have e21 : ax.eval (.tmp 21) = _ := hF 0 (det 21 _) (.tail _ (.tail _ (.tail _ (.tail _ (.tail _ (.tail _ (.tail _ (.tail _ (.tail _ (.tail _ (.tail _ (.tail _ (.tail _ (.tail _ (.tail _ (.tail _ (.tail _ (.tail _ (.tail _ (.tail _ (.tail _ (.tail _ (.tail _ (.tail _ (.tail _ (.tail _ (.head _)))))))))))))))))))))))))))
          have e22 : ax.eval (.tmp 22) = _ := hF 1 (det 22 _) (.tail _ (.tail _ (.tail _ (.tail _ (.tail _ (.tail _ (.tail _ (.tail _ (.tail _ (.tail _ (.tail _ (.tail _ (.tail _ (.tail _ (.tail _ (.tail _ (.tail _ (.tail _ (.tail _ (.tail _ (.tail _ (.tail _ (.tail _ (.tail _ (.tail _ (.head _))))))))))))))))))))))))))
          have e23 : ax.eval (.tmp 23) = _ := hF 2 (det 23 _) (.tail _ (.tail _ (.tail _ (.tail _ (.tail _ (.tail _ (.tail _ (.tail _ (.tail _ (.tail _ (.tail _ (.tail _ (.tail _ (.tail _ (.tail _ (.tail _ (.tail _ (.tail _ (.tail _ (.tail _ (.tail _ (.tail _ (.tail _ (.tail _ (.head _)))))))))))))))))))))))))
          have e24 : ax.eval (.tmp 24) = _ := hF 3 (det 24 _) (.tail _ (.tail _ (.tail _ (.tail _ (.tail _ (.tail _ (.tail _ (.tail _ (.tail _ (.tail _ (.tail _ (.tail _ (.tail _ (.tail _ (.tail _ (.tail _ (.tail _ (.tail _ (.tail _ (.tail _ (.tail _ (.tail _ (.tail _ (.head _))))))))))))))))))))))))
          have e25 : ax.eval (.tmp 25) = _ := hF 4 (det 25 _) (.tail _ (.tail _ (.tail _ (.tail _ (.tail _ (.tail _ (.tail _ (.tail _ (.tail _ (.tail _ (.tail _ (.tail _ (.tail _ (.tail _ (.tail _ (.tail _ (.tail _ (.tail _ (.tail _ (.tail _ (.tail _ (.tail _ (.head _)))))))))))))))))))))))
          have e26 : ax.eval (.tmp 26) = _ := hF 5 (det 26 _) (.tail _ (.tail _ (.tail _ (.tail _ (.tail _ (.tail _ (.tail _ (.tail _ (.tail _ (.tail _ (.tail _ (.tail _ (.tail _ (.tail _ (.tail _ (.tail _ (.tail _ (.tail _ (.tail _ (.tail _ (.tail _ (.head _))))))))))))))))))))))
          have e27 : ax.eval (.tmp 27) = _ := hF 6 (det 27 _) (.tail _ (.tail _ (.tail _ (.tail _ (.tail _ (.tail _ (.tail _ (.tail _ (.tail _ (.tail _ (.tail _ (.tail _ (.tail _ (.tail _ (.tail _ (.tail _ (.tail _ (.tail _ (.tail _ (.tail _ (.head _)))))))))))))))))))))
          have e28 : ax.eval (.tmp 28) = _ := hF 7 (det 28 _) (.tail _ (.tail _ (.tail _ (.tail _ (.tail _ (.tail _ (.tail _ (.tail _ (.tail _ (.tail _ (.tail _ (.tail _ (.tail _ (.tail _ (.tail _ (.tail _ (.tail _ (.tail _ (.tail _ (.head _))))))))))))))))))))
          have e29 : ax.eval (.tmp 29) = _ := hF 8 (det 29 _) (.tail _ (.tail _ (.tail _ (.tail _ (.tail _ (.tail _ (.tail _ (.tail _ (.tail _ (.tail _ (.tail _ (.tail _ (.tail _ (.tail _ (.tail _ (.tail _ (.tail _ (.tail _ (.head _)))))))))))))))))))
          have e30 : ax.eval (.tmp 30) = _ := hF 9 (det 30 _) (.tail _ (.tail _ (.tail _ (.tail _ (.tail _ (.tail _ (.tail _ (.tail _ (.tail _ (.tail _ (.tail _ (.tail _ (.tail _ (.tail _ (.tail _ (.tail _ (.tail _ (.head _))))))))))))))))))
          have e31 : ax.eval (.tmp 31) = _ := hF 10 (det 31 _) (.tail _ (.tail _ (.tail _ (.tail _ (.tail _ (.tail _ (.tail _ (.tail _ (.tail _ (.tail _ (.tail _ (.tail _ (.tail _ (.tail _ (.tail _ (.tail _ (.head _)))))))))))))))))
          have e32 : ax.eval (.tmp 32) = _ := hF 11 (det 32 _) (.tail _ (.tail _ (.tail _ (.tail _ (.tail _ (.tail _ (.tail _ (.tail _ (.tail _ (.tail _ (.tail _ (.tail _ (.tail _ (.tail _ (.tail _ (.head _))))))))))))))))
          have e33 : ax.eval (.tmp 33) = _ := hF 12 (det 33 _) (.tail _ (.tail _ (.tail _ (.tail _ (.tail _ (.tail _ (.tail _ (.tail _ (.tail _ (.tail _ (.tail _ (.tail _ (.tail _ (.tail _ (.head _)))))))))))))))
          have e34 : ax.eval (.tmp 34) = _ := hF 13 (det 34 _) (.tail _ (.tail _ (.tail _ (.tail _ (.tail _ (.tail _ (.tail _ (.tail _ (.tail _ (.tail _ (.tail _ (.tail _ (.tail _ (.head _))))))))))))))
          have e35 : ax.eval (.tmp 35) = _ := hF 14 (det 35 _) (.tail _ (.tail _ (.tail _ (.tail _ (.tail _ (.tail _ (.tail _ (.tail _ (.tail _ (.tail _ (.tail _ (.tail _ (.head _)))))))))))))
          have e36 : ax.eval (.tmp 36) = _ := hF 15 (det 36 _) (.tail _ (.tail _ (.tail _ (.tail _ (.tail _ (.tail _ (.tail _ (.tail _ (.tail _ (.tail _ (.tail _ (.head _))))))))))))
          have e37 : ax.eval (.tmp 37) = _ := hF 16 (det 37 _) (.tail _ (.tail _ (.tail _ (.tail _ (.tail _ (.tail _ (.tail _ (.tail _ (.tail _ (.tail _ (.head _)))))))))))
          have e38 : ax.eval (.tmp 38) = _ := hF 17 (det 38 _) (.tail _ (.tail _ (.tail _ (.tail _ (.tail _ (.tail _ (.tail _ (.tail _ (.tail _ (.head _))))))))))
          have e39 : ax.eval (.tmp 39) = _ := hF 18 (det 39 _) (.tail _ (.tail _ (.tail _ (.tail _ (.tail _ (.tail _ (.tail _ (.tail _ (.head _)))))))))
          have e40 : ax.eval (.tmp 40) = _ := hF 19 (det 40 _) (.tail _ (.tail _ (.tail _ (.tail _ (.tail _ (.tail _ (.tail _ (.head _))))))))
          have e41 : ax.eval (.tmp 41) = _ := hF 20 (det 41 _) (.tail _ (.tail _ (.tail _ (.tail _ (.tail _ (.tail _ (.head _)))))))
          have e42 : ax.eval (.tmp 42) = _ := hF 21 (det 42 _) (.tail _ (.tail _ (.tail _ (.tail _ (.tail _ (.head _))))))
          have e43 : ax.eval (.tmp 43) = _ := hF 22 (det 43 _) (.tail _ (.tail _ (.tail _ (.tail _ (.head _)))))
          have e44 : ax.eval (.tmp 44) = _ := hF 23 (det 44 _) (.tail _ (.tail _ (.tail _ (.head _))))
          have e45 : ax.eval (.tmp 45) = _ := hF 24 (det 45 _) (.tail _ (.tail _ (.head _)))
          have e46 : ax.eval (.tmp 46) = _ := hF 25 (det 46 _) (.tail _ (.head _))
          have e47 : ax.eval (.tmp 47) = _ := hF 26 (det 47 _) (.head _)
          rw [AllEq.frame (D := [21, 22, 23, 24, 25, 26, 27, 28, 29, 30, 31, 32, 33, 34, 35, 36, 37, 38, 39, 40, 41, 42, 43, 44, 45, 46, 47]) (AllEq.cons e21 (AllEq.cons e22 (AllEq.cons e23 (AllEq.cons e24 (AllEq.cons e25 (AllEq.cons e26 (AllEq.cons e27 (AllEq.cons e28 (AllEq.cons e29 (AllEq.cons e30 (AllEq.cons e31 (AllEq.cons e32 (AllEq.cons e33 (AllEq.cons e34 (AllEq.cons e35 (AllEq.cons e36 (AllEq.cons e37 (AllEq.cons e38 (AllEq.cons e39 (AllEq.cons e40 (AllEq.cons e41 (AllEq.cons e42 (AllEq.cons e43 (AllEq.cons e44 (AllEq.cons e45 (AllEq.cons e46 (AllEq.cons e47 (AllEq.nil)))))))))))))))))))))))))))) hE rfl]
          clear hF hE e21 e22 e23 e24 e25 e26 e27 e28 e29 e30 e31 e32 e33 e34 e35 e36 e37 e38 e39 e40 e41 e42 e43 e44 e45 e46 e47
          simp only [List.foldl_cons, List.foldl_nil, Act.put, List.setIfInBounds_toArray, List.set_cons_succ, List.set_cons_zero]
          have HE4 := Lib.hid (HE3.out.trans R4)
          clear R4 HQ1 HQ2
          go_wp2_with fail
          go_ret
          exact ⟨by rw [HRES.out]; rfl, HE4.out⟩
        · have d3 : ((n2 : Int) == 1) = false := by rw [beq_eq_false_iff_ne]; omega
          have hres : r = false := by rw [← HR.out, HZ1.out]; simp [h2, h3]
          have HRES := Lib.hid hres
          clear hres
          refine wp_typed (R := Ext) (w0 := w3) [[], [0], [0, 1], [0, 1, 2], [0, 1, 2, 3], [0, 1, 2, 3, 4], [0, 1, 2, 3, 4, 5], [0, 1, 2, 3], [0, 1, 2, 3, 4, 5, 6, 7], [0, 1, 2, 3, 4, 5, 6, 7, 8], [0, 1, 2, 3, 4, 5, 6, 7, 8, 9], [0, 1, 2, 3, 4, 5, 6, 7, 8, 9, 10], [0, 1, 2, 3, 4, 5, 6, 7, 8, 9, 10, 11], [0, 1, 2, 3, 4, 5, 6, 7, 8, 9, 10, 11, 12], [0, 1, 2, 3, 4, 5, 6, 7, 8, 9, 10, 11, 12, 13], [0, 1, 2, 3, 4, 5, 6, 7, 8, 9, 10, 11, 12, 13, 14], [0, 1, 2, 3, 4, 5, 6, 7, 8, 9, 10, 11, 12, 13, 14, 15], [0, 1, 2, 3, 4, 5, 6, 7, 8, 9, 10, 11, 12, 13, 14, 15, 16], [0, 1, 2, 3, 4, 5, 6, 7, 8, 9, 10, 11, 12, 13, 14, 15, 16, 17], [0, 1, 2, 3, 4, 5, 6, 7, 8, 9, 10, 11, 12, 13, 14, 15, 16, 17, 18], [0, 1, 2, 3, 4, 5, 6, 7, 8, 9, 10, 11, 12, 13, 14, 15, 16, 17, 18, 19], [0, 1, 2, 3, 4, 5, 6, 7, 8, 9, 10, 11, 12, 13, 14, 15, 16, 17, 18, 19, 20], [0, 1, 2, 3, 4, 5, 6, 7, 8, 9, 10, 11, 12, 13, 14, 15, 16, 17, 18], [0, 1, 2, 3, 4, 5, 6, 7, 8, 9, 10, 11, 12, 13, 14, 15, 16, 17, 18, 19, 20, 21, 22], [0, 1, 2, 3, 4, 5, 6, 7, 8, 9, 10, 11, 12, 13, 14, 15, 16, 17, 18, 19, 20, 21, 22, 23], [0, 1, 2, 3, 4, 5, 6, 7, 8, 9, 10, 11, 12, 13, 14, 15, 16, 17, 18, 19, 20, 21, 22, 23, 24], [0, 1, 2, 3, 4, 5, 6, 7, 8, 9, 10, 11, 12, 13, 14, 15, 16, 17, 18, 19, 20, 21, 22, 23, 24, 25], [0, 1, 2, 3, 4, 5, 6, 7, 8, 9, 10, 11, 12, 13, 14, 15, 16, 17, 18, 19, 20, 21, 22, 23, 24, 25, 26]] [21, 22, 23, 24, 25, 26, 27, 28, 29, 30, 31, 32, 33, 34, 35, 36, 37, 38, 39, 40, 41, 42, 43, 44, 45, 46, 47] Ext.refl (fun _ _ _ => Ext.trans) (Ext.drew _) (by kernel_rfl) ?_
          apply Build.det 21 Ext.refl (by rfl) (by rfl) rfl
          case h =>   -- 0: t21 := Op.move (tmp 7)
            intro ax wx hE hR hF
            have e7 : ax.eval (.tmp 7) = .slice (some ⟨b1, off1, none⟩) 1 cap1 := hE.eval 7 (by rfl) rfl
            simp [go_sem, BigFrame.eval_const, BigFrame.eval_global, BigFrame.eval_func, ↓IntWalk.iteOmega, ev e7, d2, d3]
            with_reducible rfl
          apply Build.det 22 Ext.refl (by rfl) (by rfl) rfl
          case h =>   -- 1: t22 := Op.call {callee := Callee.builtin Builtin.len, args := #[tmp 21], argT
            intro ax wx hE hR hF
            have e21 : ax.eval (.tmp 21) = _ := hF 0 (det 21 _) (by decide) (.head _)
            simp [go_sem, BigFrame.eval_const, BigFrame.eval_global, BigFrame.eval_func, ↓IntWalk.iteOmega, ev e21, d2, d3]
            with_reducible rfl
          apply Build.det 23 Ext.refl (by rfl) (by rfl) rfl
          case h =>   -- 2: t23 := Op.binOp BinOp.eql 3 (tmp 22) (const (Value.int IntKind.i64 1)) 3
            intro ax wx hE hR hF
            have e22 : ax.eval (.tmp 22) = _ := hF 1 (det 22 _) (by decide) (.head _)
            simp [go_sem, BigFrame.eval_const, BigFrame.eval_global, BigFrame.eval_func, ↓IntWalk.iteOmega, ev e22, d2, d3]
            with_reducible rfl
          apply Build.det 24 Ext.refl (by rfl) (by rfl) rfl
          case h =>   -- 3: t24 := Op.move (tmp 23)
            intro ax wx hE hR hF
            have e23 : ax.eval (.tmp 23) = _ := hF 2 (det 23 _) (by decide) (.head _)
            simp [go_sem, BigFrame.eval_const, BigFrame.eval_global, BigFrame.eval_func, ↓IntWalk.iteOmega, ev e23, d2, d3]
            with_reducible rfl
          apply Build.detg 25 Ext.refl (by rfl) (by rfl) rfl rfl
          case h =>   -- 4: t25 := Op.move (tmp 7)
            intro ax wx hE hR hF
            have e7 : ax.eval (.tmp 7) = .slice (some ⟨b1, off1, none⟩) 1 cap1 := hE.eval 7 (by rfl) rfl
            have e24 : ax.eval (.tmp 24) = _ := hF 3 (det 24 _) (by decide) (.head _)
            refine ⟨e24, ?_⟩
            simp [go_sem, BigFrame.eval_const, BigFrame.eval_global, BigFrame.eval_func, ↓IntWalk.iteOmega, ev e7, ev e24, d2, d3]
            with_reducible rfl
          apply Build.detg 26 Ext.refl (by rfl) (by rfl) rfl rfl
          case h =>   -- 5: t26 := Op.indexAddr 42 (tmp 25) (const (Value.int IntKind.i64 0))
            intro ax wx hE hR hF
            have e24 : ax.eval (.tmp 24) = _ := hF 3 (det 24 _) (by decide) (.tail _ (.head _))
            have e25 : ax.eval (.tmp 25) = _ := hF 4 (det 25 _) (by decide) (.head _)
            refine ⟨e24, ?_⟩
            simp [go_sem, BigFrame.eval_const, BigFrame.eval_global, BigFrame.eval_func, ↓IntWalk.iteOmega, ev e24, ev e25, d2, d3]
            with_reducible rfl
          apply Build.detg 27 Ext.refl (by rfl) (by rfl) rfl rfl
          case h =>   -- 6: t27 := Op.load 31 (tmp 26)
            intro ax wx hE hR hF
            have e24 : ax.eval (.tmp 24) = _ := hF 3 (det 24 _) (by decide) (.tail _ (.tail _ (.head _)))
            have e26 : ax.eval (.tmp 26) = _ := hF 5 (det 26 _) (by decide) (.head _)
            have hB := HB3.out.ext hR; have a0 := hB.cell 0; have a1 := hB.cell 1; have a2 := hB.cell 2; simp at a0 a1 a2; obtain ⟨_, _, hA1, q0, q1, q2⟩ := HQ1.out wx hR HN1.out; cases hA1
            refine ⟨e24, ?_⟩
            simp [go_sem, BigFrame.eval_const, BigFrame.eval_global, BigFrame.eval_func, ↓IntWalk.iteOmega, ev e24, ev e26, d2, d3, a0, a1, a2, q0, q1, q2]
            with_reducible rfl
          apply Build.detg 28 Ext.refl (by rfl) (by rfl) rfl rfl
          case h =>   -- 7: t28 := Op.load 31 (tmp 5)
            intro ax wx hE hR hF
            have e5 : ax.eval (.tmp 5) = .pointer (some ⟨g, 0, none⟩) := hE.eval 5 (by rfl) rfl
            have e24 : ax.eval (.tmp 24) = _ := hF 3 (det 24 _) (by decide) (.tail _ (.tail _ (.tail _ (.head _))))
            have hB := HB3.out.ext hR; have a0 := hB.cell 0; have a1 := hB.cell 1; have a2 := hB.cell 2; simp at a0 a1 a2; obtain ⟨_, _, hA1, q0, q1, q2⟩ := HQ1.out wx hR HN1.out; cases hA1
            refine ⟨e24, ?_⟩
            simp [go_sem, BigFrame.eval_const, BigFrame.eval_global, BigFrame.eval_func, ↓IntWalk.iteOmega, ev e5, ev e24, d2, d3, a0, a1, a2, q0, q1, q2]
            with_reducible rfl
          apply Build.detg 29 Ext.refl (by rfl) (by rfl) rfl rfl
          case h =>   -- 8: t29 := Op.binOp BinOp.eql 31 (tmp 27) (tmp 28) 31
            intro ax wx hE hR hF
            have e24 : ax.eval (.tmp 24) = _ := hF 3 (det 24 _) (by decide) (.tail _ (.tail _ (.tail _ (.tail _ (.head _)))))
            have e27 : ax.eval (.tmp 27) = _ := hF 6 (det 27 _) (by decide) (.tail _ (.head _))
            have e28 : ax.eval (.tmp 28) = _ := hF 7 (det 28 _) (by decide) (.head _)
            refine ⟨e24, ?_⟩
            simp [go_sem, BigFrame.eval_const, BigFrame.eval_global, BigFrame.eval_func, ↓IntWalk.iteOmega, ev e24, ev e27, ev e28, d2, d3, HEQ1.out]
            with_reducible rfl
          apply Build.det 30 Ext.refl (by rfl) (by rfl) rfl
          case h =>   -- 9: t30 := Op.pick (tmp 24) (tmp 29) (const (Value.bool false))
            intro ax wx hE hR hF
            have e24 : ax.eval (.tmp 24) = _ := hF 3 (det 24 _) (by decide) (.tail _ (.tail _ (.tail _ (.tail _ (.tail _ (.head _))))))
            have e29 : ax.eval (.tmp 29) = _ := hF 8 (det 29 _) (by decide) (.head _)
            simp [go_sem, BigFrame.eval_const, BigFrame.eval_global, BigFrame.eval_func, ↓IntWalk.iteOmega, ev e24, ev e29, d2, d3]
            with_reducible rfl
          apply Build.det 31 Ext.refl (by rfl) (by rfl) rfl
          case h =>   -- 10: t31 := Op.move (tmp 30)
            intro ax wx hE hR hF
            have e30 : ax.eval (.tmp 30) = _ := hF 9 (det 30 _) (by decide) (.head _)
            simp [go_sem, BigFrame.eval_const, BigFrame.eval_global, BigFrame.eval_func, ↓IntWalk.iteOmega, ev e30, d2, d3]
            with_reducible rfl
          apply Build.detg 32 Ext.refl (by rfl) (by rfl) rfl rfl
          case h =>   -- 11: t32 := Op.move (tmp 8)
            intro ax wx hE hR hF
            have e8 : ax.eval (.tmp 8) = .slice B2 n2 cap2 := hE.eval 8 (by rfl) rfl
            have e31 : ax.eval (.tmp 31) = _ := hF 10 (det 31 _) (by decide) (.head _)
            refine ⟨e31, ?_⟩
            simp [go_sem, BigFrame.eval_const, BigFrame.eval_global, BigFrame.eval_func, ↓IntWalk.iteOmega, ev e8, ev e31, d2, d3]
            with_reducible rfl
          apply Build.detg 33 Ext.refl (by rfl) (by rfl) rfl rfl
          case h =>   -- 12: t33 := Op.call {callee := Callee.builtin Builtin.len, args := #[tmp 32], argT
            intro ax wx hE hR hF
            have e31 : ax.eval (.tmp 31) = _ := hF 10 (det 31 _) (by decide) (.tail _ (.head _))
            have e32 : ax.eval (.tmp 32) = _ := hF 11 (det 32 _) (by decide) (.head _)
            refine ⟨e31, ?_⟩
            simp [go_sem, BigFrame.eval_const, BigFrame.eval_global, BigFrame.eval_func, ↓IntWalk.iteOmega, ev e31, ev e32, d2, d3]
            with_reducible rfl
          apply Build.detg 34 Ext.refl (by rfl) (by rfl) rfl rfl
          case h =>   -- 13: t34 := Op.binOp BinOp.eql 3 (tmp 33) (const (Value.int IntKind.i64 0)) 3
            intro ax wx hE hR hF
            have e31 : ax.eval (.tmp 31) = _ := hF 10 (det 31 _) (by decide) (.tail _ (.tail _ (.head _)))
            have e33 : ax.eval (.tmp 33) = _ := hF 12 (det 33 _) (by decide) (.head _)
            refine ⟨e31, ?_⟩
            simp [go_sem, BigFrame.eval_const, BigFrame.eval_global, BigFrame.eval_func, ↓IntWalk.iteOmega, ev e31, ev e33, d2, d3]
            with_reducible rfl
          apply Build.detg 35 Ext.refl (by rfl) (by rfl) rfl rfl
          case h =>   -- 14: t35 := Op.move (tmp 34)
            intro ax wx hE hR hF
            have e31 : ax.eval (.tmp 31) = _ := hF 10 (det 31 _) (by decide) (.tail _ (.tail _ (.tail _ (.head _))))
            have e34 : ax.eval (.tmp 34) = _ := hF 13 (det 34 _) (by decide) (.head _)
            refine ⟨e31, ?_⟩
            simp [go_sem, BigFrame.eval_const, BigFrame.eval_global, BigFrame.eval_func, ↓IntWalk.iteOmega, ev e31, ev e34, d2, d3]
            with_reducible rfl
          apply Build.detg 36 Ext.refl (by rfl) (by rfl) rfl rfl
          case h =>   -- 15: t36 := Op.move (tmp 8)
            intro ax wx hE hR hF
            have e8 : ax.eval (.tmp 8) = .slice B2 n2 cap2 := hE.eval 8 (by rfl) rfl
            have e35 : ax.eval (.tmp 35) = _ := hF 14 (det 35 _) (by decide) (.head _)
            refine ⟨e35, ?_⟩
            simp [go_sem, BigFrame.eval_const, BigFrame.eval_global, BigFrame.eval_func, ↓IntWalk.iteOmega, ev e8, ev e35, d2, d3]
            with_reducible rfl
          apply Build.detg 37 Ext.refl (by rfl) (by rfl) rfl rfl
          case h =>   -- 16: t37 := Op.call {callee := Callee.builtin Builtin.len, args := #[tmp 36], argT
            intro ax wx hE hR hF
            have e35 : ax.eval (.tmp 35) = _ := hF 14 (det 35 _) (by decide) (.tail _ (.head _))
            have e36 : ax.eval (.tmp 36) = _ := hF 15 (det 36 _) (by decide) (.head _)
            refine ⟨e35, ?_⟩
            simp [go_sem, BigFrame.eval_const, BigFrame.eval_global, BigFrame.eval_func, ↓IntWalk.iteOmega, ev e35, ev e36, d2, d3]
            with_reducible rfl
          apply Build.detg 38 Ext.refl (by rfl) (by rfl) rfl rfl
          case h =>   -- 17: t38 := Op.binOp BinOp.eql 3 (tmp 37) (const (Value.int IntKind.i64 1)) 3
            intro ax wx hE hR hF
            have e35 : ax.eval (.tmp 35) = _ := hF 14 (det 35 _) (by decide) (.tail _ (.tail _ (.head _)))
            have e37 : ax.eval (.tmp 37) = _ := hF 16 (det 37 _) (by decide) (.head _)
            refine ⟨e35, ?_⟩
            simp [go_sem, BigFrame.eval_const, BigFrame.eval_global, BigFrame.eval_func, ↓IntWalk.iteOmega, ev e35, ev e37, d2, d3]
            with_reducible rfl
          apply Build.detg 39 Ext.refl (by rfl) (by rfl) rfl rfl
          case h =>   -- 18: t39 := Op.move (tmp 38)
            intro ax wx hE hR hF
            have e35 : ax.eval (.tmp 35) = _ := hF 14 (det 35 _) (by decide) (.tail _ (.tail _ (.tail _ (.head _))))
            have e38 : ax.eval (.tmp 38) = _ := hF 17 (det 38 _) (by decide) (.head _)
            refine ⟨e35, ?_⟩
            simp [go_sem, BigFrame.eval_const, BigFrame.eval_global, BigFrame.eval_func, ↓IntWalk.iteOmega, ev e35, ev e38, d2, d3]
            with_reducible rfl
          refine Build.skip 40 (by rfl) (by rfl) rfl rfl ?_ ?_
          · intro ax wx hE hR hF
            have e8 : ax.eval (.tmp 8) = .slice B2 n2 cap2 := hE.eval 8 (by rfl) rfl
            have e39 : ax.eval (.tmp 39) = _ := hF 18 (det 39 _) (by decide) (.head _)
            exact e39
          refine Build.skip 41 (by rfl) (by rfl) rfl rfl ?_ ?_
          · intro ax wx hE hR hF
            have e39 : ax.eval (.tmp 39) = _ := hF 18 (det 39 _) (by decide) (.tail _ (.head _))
            have e40 : ax.eval (.tmp 40) = _ := hF 19 (det 40 _) (by decide) (.head _)
            exact e39
          refine Build.skip 42 (by rfl) (by rfl) rfl rfl ?_ ?_
          · intro ax wx hE hR hF
            have e39 : ax.eval (.tmp 39) = _ := hF 18 (det 39 _) (by decide) (.tail _ (.tail _ (.head _)))
            have e41 : ax.eval (.tmp 41) = _ := hF 20 (det 41 _) (by decide) (.head _)
            exact e39
          refine Build.skip 43 (by rfl) (by rfl) rfl rfl ?_ ?_
          · intro ax wx hE hR hF
            have e5 : ax.eval (.tmp 5) = .pointer (some ⟨g, 0, none⟩) := hE.eval 5 (by rfl) rfl
            have e39 : ax.eval (.tmp 39) = _ := hF 18 (det 39 _) (by decide) (.tail _ (.tail _ (.tail _ (.head _))))
            exact e39
          refine Build.skip 44 (by rfl) (by rfl) rfl rfl ?_ ?_
          · intro ax wx hE hR hF
            have e39 : ax.eval (.tmp 39) = _ := hF 18 (det 39 _) (by decide) (.tail _ (.tail _ (.tail _ (.tail _ (.head _)))))
            have e42 : ax.eval (.tmp 42) = _ := hF 21 (det 42 _) (by decide) (.tail _ (.head _))
            have e43 : ax.eval (.tmp 43) = _ := hF 22 (det 43 _) (by decide) (.head _)
            exact e39
          apply Build.detg 45 Ext.refl (by rfl) (by rfl) rfl rfl
          case h =>   -- 24: t45 := Op.pick (tmp 39) (tmp 44) (const (Value.bool false))
            intro ax wx hE hR hF
            have e35 : ax.eval (.tmp 35) = _ := hF 14 (det 35 _) (by decide) (.tail _ (.tail _ (.tail _ (.tail _ (.tail _ (.tail _ (.tail _ (.tail _ (.tail _ (.head _))))))))))
            have e39 : ax.eval (.tmp 39) = _ := hF 18 (det 39 _) (by decide) (.tail _ (.tail _ (.tail _ (.tail _ (.tail _ (.head _))))))
            have e44 : ax.eval (.tmp 44) = _ := hF 23 (det 44 _) (by decide) (.head _)
            refine ⟨e35, ?_⟩
            simp [go_sem, BigFrame.eval_const, BigFrame.eval_global, BigFrame.eval_func, ↓IntWalk.iteOmega, ev e35, ev e39, ev e44, d2, d3]
            with_reducible rfl
          apply Build.detg 46 Ext.refl (by rfl) (by rfl) rfl rfl
          case h =>   -- 25: t46 := Op.pick (tmp 35) (const (Value.bool true)) (tmp 45)
            intro ax wx hE hR hF
            have e31 : ax.eval (.tmp 31) = _ := hF 10 (det 31 _) (by decide) (.tail _ (.tail _ (.tail _ (.tail _ (.tail _ (.tail _ (.tail _ (.tail _ (.tail _ (.tail _ (.tail _ (.tail _ (.tail _ (.tail _ (.head _)))))))))))))))
            have e35 : ax.eval (.tmp 35) = _ := hF 14 (det 35 _) (by decide) (.tail _ (.tail _ (.tail _ (.tail _ (.tail _ (.tail _ (.tail _ (.tail _ (.tail _ (.tail _ (.head _)))))))))))
            have e45 : ax.eval (.tmp 45) = _ := hF 24 (det 45 _) (by decide) (.head _)
            refine ⟨e31, ?_⟩
            simp [go_sem, BigFrame.eval_const, BigFrame.eval_global, BigFrame.eval_func, ↓IntWalk.iteOmega, ev e31, ev e35, ev e45, d2, d3]
            with_reducible rfl
          apply Build.det 47 Ext.refl (by rfl) (by rfl) rfl
          case h =>   -- 26: t47 := Op.pick (tmp 31) (tmp 46) (const (Value.bool false))
            intro ax wx hE hR hF
            have e31 : ax.eval (.tmp 31) = _ := hF 10 (det 31 _) (by decide) (.tail _ (.tail _ (.tail _ (.tail _ (.tail _ (.tail _ (.tail _ (.tail _ (.tail _ (.tail _ (.tail _ (.tail _ (.tail _ (.tail _ (.tail _ (.head _))))))))))))))))
            have e46 : ax.eval (.tmp 46) = _ := hF 25 (det 46 _) (by decide) (.head _)
            simp [go_sem, BigFrame.eval_const, BigFrame.eval_global, BigFrame.eval_func, ↓IntWalk.iteOmega, ev e31, ev e46, d2, d3]
            with_reducible rfl
          apply Build.stop
          refine ⟨by kernel_rfl, .inr ⟨by kernel_rfl, _, rfl, rfl, ?_⟩⟩
          intro ax w4 hE R4 hF
          have e21 : ax.eval (.tmp 21) = _ := hF 0 (det 21 _) (.tail _ (.tail _ (.tail _ (.tail _ (.tail _ (.tail _ (.tail _ (.tail _ (.tail _ (.tail _ (.tail _ (.tail _ (.tail _ (.tail _ (.tail _ (.tail _ (.tail _ (.tail _ (.tail _ (.tail _ (.tail _ (.tail _ (.tail _ (.tail _ (.tail _ (.tail _ (.head _)))))))))))))))))))))))))))
          have e22 : ax.eval (.tmp 22) = _ := hF 1 (det 22 _) (.tail _ (.tail _ (.tail _ (.tail _ (.tail _ (.tail _ (.tail _ (.tail _ (.tail _ (.tail _ (.tail _ (.tail _ (.tail _ (.tail _ (.tail _ (.tail _ (.tail _ (.tail _ (.tail _ (.tail _ (.tail _ (.tail _ (.tail _ (.tail _ (.tail _ (.head _))))))))))))))))))))))))))
          have e23 : ax.eval (.tmp 23) = _ := hF 2 (det 23 _) (.tail _ (.tail _ (.tail _ (.tail _ (.tail _ (.tail _ (.tail _ (.tail _ (.tail _ (.tail _ (.tail _ (.tail _ (.tail _ (.tail _ (.tail _ (.tail _ (.tail _ (.tail _ (.tail _ (.tail _ (.tail _ (.tail _ (.tail _ (.tail _ (.head _)))))))))))))))))))))))))
          have e24 : ax.eval (.tmp 24) = _ := hF 3 (det 24 _) (.tail _ (.tail _ (.tail _ (.tail _ (.tail _ (.tail _ (.tail _ (.tail _ (.tail _ (.tail _ (.tail _ (.tail _ (.tail _ (.tail _ (.tail _ (.tail _ (.tail _ (.tail _ (.tail _ (.tail _ (.tail _ (.tail _ (.tail _ (.head _))))))))))))))))))))))))
          have e25 : ax.eval (.tmp 25) = _ := hF 4 (det 25 _) (.tail _ (.tail _ (.tail _ (.tail _ (.tail _ (.tail _ (.tail _ (.tail _ (.tail _ (.tail _ (.tail _ (.tail _ (.tail _ (.tail _ (.tail _ (.tail _ (.tail _ (.tail _ (.tail _ (.tail _ (.tail _ (.tail _ (.head _)))))))))))))))))))))))
          have e26 : ax.eval (.tmp 26) = _ := hF 5 (det 26 _) (.tail _ (.tail _ (.tail _ (.tail _ (.tail _ (.tail _ (.tail _ (.tail _ (.tail _ (.tail _ (.tail _ (.tail _ (.tail _ (.tail _ (.tail _ (.tail _ (.tail _ (.tail _ (.tail _ (.tail _ (.tail _ (.head _))))))))))))))))))))))
          have e27 : ax.eval (.tmp 27) = _ := hF 6 (det 27 _) (.tail _ (.tail _ (.tail _ (.tail _ (.tail _ (.tail _ (.tail _ (.tail _ (.tail _ (.tail _ (.tail _ (.tail _ (.tail _ (.tail _ (.tail _ (.tail _ (.tail _ (.tail _ (.tail _ (.tail _ (.head _)))))))))))))))))))))
          have e28 : ax.eval (.tmp 28) = _ := hF 7 (det 28 _) (.tail _ (.tail _ (.tail _ (.tail _ (.tail _ (.tail _ (.tail _ (.tail _ (.tail _ (.tail _ (.tail _ (.tail _ (.tail _ (.tail _ (.tail _ (.tail _ (.tail _ (.tail _ (.tail _ (.head _))))))))))))))))))))
          have e29 : ax.eval (.tmp 29) = _ := hF 8 (det 29 _) (.tail _ (.tail _ (.tail _ (.tail _ (.tail _ (.tail _ (.tail _ (.tail _ (.tail _ (.tail _ (.tail _ (.tail _ (.tail _ (.tail _ (.tail _ (.tail _ (.tail _ (.tail _ (.head _)))))))))))))))))))
          have e30 : ax.eval (.tmp 30) = _ := hF 9 (det 30 _) (.tail _ (.tail _ (.tail _ (.tail _ (.tail _ (.tail _ (.tail _ (.tail _ (.tail _ (.tail _ (.tail _ (.tail _ (.tail _ (.tail _ (.tail _ (.tail _ (.tail _ (.head _))))))))))))))))))
          have e31 : ax.eval (.tmp 31) = _ := hF 10 (det 31 _) (.tail _ (.tail _ (.tail _ (.tail _ (.tail _ (.tail _ (.tail _ (.tail _ (.tail _ (.tail _ (.tail _ (.tail _ (.tail _ (.tail _ (.tail _ (.tail _ (.head _)))))))))))))))))
          have e32 : ax.eval (.tmp 32) = _ := hF 11 (det 32 _) (.tail _ (.tail _ (.tail _ (.tail _ (.tail _ (.tail _ (.tail _ (.tail _ (.tail _ (.tail _ (.tail _ (.tail _ (.tail _ (.tail _ (.tail _ (.head _))))))))))))))))
          have e33 : ax.eval (.tmp 33) = _ := hF 12 (det 33 _) (.tail _ (.tail _ (.tail _ (.tail _ (.tail _ (.tail _ (.tail _ (.tail _ (.tail _ (.tail _ (.tail _ (.tail _ (.tail _ (.tail _ (.head _)))))))))))))))
          have e34 : ax.eval (.tmp 34) = _ := hF 13 (det 34 _) (.tail _ (.tail _ (.tail _ (.tail _ (.tail _ (.tail _ (.tail _ (.tail _ (.tail _ (.tail _ (.tail _ (.tail _ (.tail _ (.head _))))))))))))))
          have e35 : ax.eval (.tmp 35) = _ := hF 14 (det 35 _) (.tail _ (.tail _ (.tail _ (.tail _ (.tail _ (.tail _ (.tail _ (.tail _ (.tail _ (.tail _ (.tail _ (.tail _ (.head _)))))))))))))
          have e36 : ax.eval (.tmp 36) = _ := hF 15 (det 36 _) (.tail _ (.tail _ (.tail _ (.tail _ (.tail _ (.tail _ (.tail _ (.tail _ (.tail _ (.tail _ (.tail _ (.head _))))))))))))
          have e37 : ax.eval (.tmp 37) = _ := hF 16 (det 37 _) (.tail _ (.tail _ (.tail _ (.tail _ (.tail _ (.tail _ (.tail _ (.tail _ (.tail _ (.tail _ (.head _)))))))))))
          have e38 : ax.eval (.tmp 38) = _ := hF 17 (det 38 _) (.tail _ (.tail _ (.tail _ (.tail _ (.tail _ (.tail _ (.tail _ (.tail _ (.tail _ (.head _))))))))))
          have e39 : ax.eval (.tmp 39) = _ := hF 18 (det 39 _) (.tail _ (.tail _ (.tail _ (.tail _ (.tail _ (.tail _ (.tail _ (.tail _ (.head _)))))))))
          have e40 : ax.eval (.tmp 40) = _ := hF 19 (det 40 _) (.tail _ (.tail _ (.tail _ (.tail _ (.tail _ (.tail _ (.tail _ (.head _))))))))
          have e41 : ax.eval (.tmp 41) = _ := hF 20 (det 41 _) (.tail _ (.tail _ (.tail _ (.tail _ (.tail _ (.tail _ (.head _)))))))
          have e42 : ax.eval (.tmp 42) = _ := hF 21 (det 42 _) (.tail _ (.tail _ (.tail _ (.tail _ (.tail _ (.head _))))))
          have e43 : ax.eval (.tmp 43) = _ := hF 22 (det 43 _) (.tail _ (.tail _ (.tail _ (.tail _ (.head _)))))
          have e44 : ax.eval (.tmp 44) = _ := hF 23 (det 44 _) (.tail _ (.tail _ (.tail _ (.head _))))
          have e45 : ax.eval (.tmp 45) = _ := hF 24 (det 45 _) (.tail _ (.tail _ (.head _)))
          have e46 : ax.eval (.tmp 46) = _ := hF 25 (det 46 _) (.tail _ (.head _))
          have e47 : ax.eval (.tmp 47) = _ := hF 26 (det 47 _) (.head _)
          rw [AllEq.frame (D := [21, 22, 23, 24, 25, 26, 27, 28, 29, 30, 31, 32, 33, 34, 35, 36, 37, 38, 39, 40, 41, 42, 43, 44, 45, 46, 47]) (AllEq.cons e21 (AllEq.cons e22 (AllEq.cons e23 (AllEq.cons e24 (AllEq.cons e25 (AllEq.cons e26 (AllEq.cons e27 (AllEq.cons e28 (AllEq.cons e29 (AllEq.cons e30 (AllEq.cons e31 (AllEq.cons e32 (AllEq.cons e33 (AllEq.cons e34 (AllEq.cons e35 (AllEq.cons e36 (AllEq.cons e37 (AllEq.cons e38 (AllEq.cons e39 (AllEq.cons e40 (AllEq.cons e41 (AllEq.cons e42 (AllEq.cons e43 (AllEq.cons e44 (AllEq.cons e45 (AllEq.cons e46 (AllEq.cons e47 (AllEq.nil)))))))))))))))))))))))))))) hE rfl]
          clear hF hE e21 e22 e23 e24 e25 e26 e27 e28 e29 e30 e31 e32 e33 e34 e35 e36 e37 e38 e39 e40 e41 e42 e43 e44 e45 e46 e47
          simp only [List.foldl_cons, List.foldl_nil, Act.put, List.setIfInBounds_toArray, List.set_cons_succ, List.set_cons_zero]
          have HE4 := Lib.hid (HE3.out.trans R4)
          clear R4 HQ1 HQ2
          go_wp2_with fail
          go_ret
          exact ⟨by rw [HRES.out]; rfl, HE4.out⟩
  · have d1 : ((n1 : Int) == 1) = false := by rw [beq_eq_false_iff_ne]; omega
    have hres : r = false := by rw [← HR.out]; simp [h1]
    have HRES := Lib.hid hres
    clear hres
    refine wp_typed (R := Ext) (w0 := w3) [[], [0], [0, 1], [0, 1, 2], [0, 1, 2, 3], [0, 1, 2, 3, 4], [0, 1, 2, 3, 4, 5], [0, 1, 2, 3], [0, 1, 2, 3, 4, 5, 6, 7], [0, 1, 2, 3, 4, 5, 6, 7, 8], [0, 1, 2, 3, 4, 5, 6, 7, 8, 9], [0, 1, 2, 3, 4, 5, 6, 7, 8, 9, 10], [0, 1, 2, 3, 4, 5, 6, 7, 8, 9, 10, 11], [0, 1, 2, 3, 4, 5, 6, 7, 8, 9, 10, 11, 12], [0, 1, 2, 3, 4, 5, 6, 7, 8, 9, 10, 11, 12, 13], [0, 1, 2, 3, 4, 5, 6, 7, 8, 9, 10, 11, 12, 13, 14], [0, 1, 2, 3, 4, 5, 6, 7, 8, 9, 10, 11, 12, 13, 14, 15], [0, 1, 2, 3, 4, 5, 6, 7, 8, 9, 10, 11, 12, 13, 14, 15, 16], [0, 1, 2, 3, 4, 5, 6, 7, 8, 9, 10, 11, 12, 13, 14, 15, 16, 17], [0, 1, 2, 3, 4, 5, 6, 7, 8, 9, 10, 11, 12, 13, 14, 15, 16, 17, 18], [0, 1, 2, 3, 4, 5, 6, 7, 8, 9, 10, 11, 12, 13, 14, 15, 16, 17, 18, 19], [0, 1, 2, 3, 4, 5, 6, 7, 8, 9, 10, 11, 12, 13, 14, 15, 16, 17, 18, 19, 20], [0, 1, 2, 3, 4, 5, 6, 7, 8, 9, 10, 11, 12, 13, 14, 15, 16, 17, 18], [0, 1, 2, 3, 4, 5, 6, 7, 8, 9, 10, 11, 12, 13, 14, 15, 16, 17, 18, 19, 20, 21, 22], [0, 1, 2, 3, 4, 5, 6, 7, 8, 9, 10, 11, 12, 13, 14, 15, 16, 17, 18, 19, 20, 21, 22, 23], [0, 1, 2, 3, 4, 5, 6, 7, 8, 9, 10, 11, 12, 13, 14, 15, 16, 17, 18, 19, 20, 21, 22, 23, 24], [0, 1, 2, 3, 4, 5, 6, 7, 8, 9, 10, 11, 12, 13, 14, 15, 16, 17, 18, 19, 20, 21, 22, 23, 24, 25], [0, 1, 2, 3, 4, 5, 6, 7, 8, 9, 10, 11, 12, 13, 14, 15, 16, 17, 18, 19, 20, 21, 22, 23, 24, 25, 26]] [21, 22, 23, 24, 25, 26, 27, 28, 29, 30, 31, 32, 33, 34, 35, 36, 37, 38, 39, 40, 41, 42, 43, 44, 45, 46, 47] Ext.refl (fun _ _ _ => Ext.trans) (Ext.drew _) (by kernel_rfl) ?_
    apply Build.det 21 Ext.refl (by rfl) (by rfl) rfl
    case h =>   -- 0: t21 := Op.move (tmp 7)
      intro ax wx hE hR hF
      have e7 : ax.eval (.tmp 7) = .slice B1 n1 cap1 := hE.eval 7 (by rfl) rfl
      simp [go_sem, BigFrame.eval_const, BigFrame.eval_global, BigFrame.eval_func, ↓IntWalk.iteOmega, ev e7, d1]
      with_reducible rfl
    apply Build.det 22 Ext.refl (by rfl) (by rfl) rfl
    case h =>   -- 1: t22 := Op.call {callee := Callee.builtin Builtin.len, args := #[tmp 21], argT
      intro ax wx hE hR hF
      have e21 : ax.eval (.tmp 21) = _ := hF 0 (det 21 _) (by decide) (.head _)
      simp [go_sem, BigFrame.eval_const, BigFrame.eval_global, BigFrame.eval_func, ↓IntWalk.iteOmega, ev e21, d1]
      with_reducible rfl
    apply Build.det 23 Ext.refl (by rfl) (by rfl) rfl
    case h =>   -- 2: t23 := Op.binOp BinOp.eql 3 (tmp 22) (const (Value.int IntKind.i64 1)) 3
      intro ax wx hE hR hF
      have e22 : ax.eval (.tmp 22) = _ := hF 1 (det 22 _) (by decide) (.head _)
      simp [go_sem, BigFrame.eval_const, BigFrame.eval_global, BigFrame.eval_func, ↓IntWalk.iteOmega, ev e22, d1]
      with_reducible rfl
    apply Build.det 24 Ext.refl (by rfl) (by rfl) rfl
    case h =>   -- 3: t24 := Op.move (tmp 23)
      intro ax wx hE hR hF
      have e23 : ax.eval (.tmp 23) = _ := hF 2 (det 23 _) (by decide) (.head _)
      simp [go_sem, BigFrame.eval_const, BigFrame.eval_global, BigFrame.eval_func, ↓IntWalk.iteOmega, ev e23, d1]
      with_reducible rfl
    refine Build.skip 25 (by rfl) (by rfl) rfl rfl ?_ ?_
    · intro ax wx hE hR hF
      have e7 : ax.eval (.tmp 7) = .slice B1 n1 cap1 := hE.eval 7 (by rfl) rfl
      have e24 : ax.eval (.tmp 24) = _ := hF 3 (det 24 _) (by decide) (.head _)
      exact e24
    refine Build.skip 26 (by rfl) (by rfl) rfl rfl ?_ ?_
    · intro ax wx hE hR hF
      have e24 : ax.eval (.tmp 24) = _ := hF 3 (det 24 _) (by decide) (.tail _ (.head _))
      have e25 : ax.eval (.tmp 25) = _ := hF 4 (det 25 _) (by decide) (.head _)
      exact e24
    refine Build.skip 27 (by rfl) (by rfl) rfl rfl ?_ ?_
    · intro ax wx hE hR hF
      have e24 : ax.eval (.tmp 24) = _ := hF 3 (det 24 _) (by decide) (.tail _ (.tail _ (.head _)))
      have e26 : ax.eval (.tmp 26) = _ := hF 5 (det 26 _) (by decide) (.head _)
      exact e24
    refine Build.skip 28 (by rfl) (by rfl) rfl rfl ?_ ?_
    · intro ax wx hE hR hF
      have e5 : ax.eval (.tmp 5) = .pointer (some ⟨g, 0, none⟩) := hE.eval 5 (by rfl) rfl
      have e24 : ax.eval (.tmp 24) = _ := hF 3 (det 24 _) (by decide) (.tail _ (.tail _ (.tail _ (.head _))))
      exact e24
    refine Build.skip 29 (by rfl) (by rfl) rfl rfl ?_ ?_
    · intro ax wx hE hR hF
      have e24 : ax.eval (.tmp 24) = _ := hF 3 (det 24 _) (by decide) (.tail _ (.tail _ (.tail _ (.tail _ (.head _)))))
      have e27 : ax.eval (.tmp 27) = _ := hF 6 (det 27 _) (by decide) (.tail _ (.head _))
      have e28 : ax.eval (.tmp 28) = _ := hF 7 (det 28 _) (by decide) (.head _)
      exact e24
    apply Build.det 30 Ext.refl (by rfl) (by rfl) rfl
    case h =>   -- 9: t30 := Op.pick (tmp 24) (tmp 29) (const (Value.bool false))
      intro ax wx hE hR hF
      have e24 : ax.eval (.tmp 24) = _ := hF 3 (det 24 _) (by decide) (.tail _ (.tail _ (.tail _ (.tail _ (.tail _ (.head _))))))
      have e29 : ax.eval (.tmp 29) = _ := hF 8 (det 29 _) (by decide) (.head _)
      simp [go_sem, BigFrame.eval_const, BigFrame.eval_global, BigFrame.eval_func, ↓IntWalk.iteOmega, ev e24, ev e29, d1]
      with_reducible rfl
    apply Build.det 31 Ext.refl (by rfl) (by rfl) rfl
    case h =>   -- 10: t31 := Op.move (tmp 30)
      intro ax wx hE hR hF
      have e30 : ax.eval (.tmp 30) = _ := hF 9 (det 30 _) (by decide) (.head _)
      simp [go_sem, BigFrame.eval_const, BigFrame.eval_global, BigFrame.eval_func, ↓IntWalk.iteOmega, ev e30, d1]
      with_reducible rfl
    refine Build.skip 32 (by rfl) (by rfl) rfl rfl ?_ ?_
    · intro ax wx hE hR hF
      have e8 : ax.eval (.tmp 8) = .slice B2 n2 cap2 := hE.eval 8 (by rfl) rfl
      have e31 : ax.eval (.tmp 31) = _ := hF 10 (det 31 _) (by decide) (.head _)
      exact e31
    refine Build.skip 33 (by rfl) (by rfl) rfl rfl ?_ ?_
    · intro ax wx hE hR hF
      have e31 : ax.eval (.tmp 31) = _ := hF 10 (det 31 _) (by decide) (.tail _ (.head _))
      have e32 : ax.eval (.tmp 32) = _ := hF 11 (det 32 _) (by decide) (.head _)
      exact e31
    refine Build.skip 34 (by rfl) (by rfl) rfl rfl ?_ ?_
    · intro ax wx hE hR hF
      have e31 : ax.eval (.tmp 31) = _ := hF 10 (det 31 _) (by decide) (.tail _ (.tail _ (.head _)))
      have e33 : ax.eval (.tmp 33) = _ := hF 12 (det 33 _) (by decide) (.head _)
      exact e31
    refine Build.skip 35 (by rfl) (by rfl) rfl rfl ?_ ?_
    · intro ax wx hE hR hF
      have e31 : ax.eval (.tmp 31) = _ := hF 10 (det 31 _) (by decide) (.tail _ (.tail _ (.tail _ (.head _))))
      have e34 : ax.eval (.tmp 34) = _ := hF 13 (det 34 _) (by decide) (.head _)
      exact e31
    refine Build.skipu 36 (by rfl) (by rfl) rfl rfl ?_ ?_
    · intro ax wx hE hR hF
      have e8 : ax.eval (.tmp 8) = .slice B2 n2 cap2 := hE.eval 8 (by rfl) rfl
      have e35 : ax.eval (.tmp 35) = _ := hF 14 (det 35 _) (by decide) (.head _)
      exact e35
    refine Build.skipu 37 (by rfl) (by rfl) rfl rfl ?_ ?_
    · intro ax wx hE hR hF
      have e35 : ax.eval (.tmp 35) = _ := hF 14 (det 35 _) (by decide) (.tail _ (.head _))
      have e36 : ax.eval (.tmp 36) = _ := hF 15 (det 36 _) (by decide) (.head _)
      exact e35
    refine Build.skipu 38 (by rfl) (by rfl) rfl rfl ?_ ?_
    · intro ax wx hE hR hF
      have e35 : ax.eval (.tmp 35) = _ := hF 14 (det 35 _) (by decide) (.tail _ (.tail _ (.head _)))
      have e37 : ax.eval (.tmp 37) = _ := hF 16 (det 37 _) (by decide) (.head _)
      exact e35
    refine Build.skipu 39 (by rfl) (by rfl) rfl rfl ?_ ?_
    · intro ax wx hE hR hF
      have e35 : ax.eval (.tmp 35) = _ := hF 14 (det 35 _) (by decide) (.tail _ (.tail _ (.tail _ (.head _))))
      have e38 : ax.eval (.tmp 38) = _ := hF 17 (det 38 _) (by decide) (.head _)
      exact e35
    refine Build.skipu 40 (by rfl) (by rfl) rfl rfl ?_ ?_
    · intro ax wx hE hR hF
      have e8 : ax.eval (.tmp 8) = .slice B2 n2 cap2 := hE.eval 8 (by rfl) rfl
      have e39 : ax.eval (.tmp 39) = _ := hF 18 (det 39 _) (by decide) (.head _)
      exact e39
    refine Build.skipu 41 (by rfl) (by rfl) rfl rfl ?_ ?_
    · intro ax wx hE hR hF
      have e39 : ax.eval (.tmp 39) = _ := hF 18 (det 39 _) (by decide) (.tail _ (.head _))
      have e40 : ax.eval (.tmp 40) = _ := hF 19 (det 40 _) (by decide) (.head _)
      exact e39
    refine Build.skipu 42 (by rfl) (by rfl) rfl rfl ?_ ?_
    · intro ax wx hE hR hF
      have e39 : ax.eval (.tmp 39) = _ := hF 18 (det 39 _) (by decide) (.tail _ (.tail _ (.head _)))
      have e41 : ax.eval (.tmp 41) = _ := hF 20 (det 41 _) (by decide) (.head _)
      exact e39
    refine Build.skipu 43 (by rfl) (by rfl) rfl rfl ?_ ?_
    · intro ax wx hE hR hF
      have e5 : ax.eval (.tmp 5) = .pointer (some ⟨g, 0, none⟩) := hE.eval 5 (by rfl) rfl
      have e39 : ax.eval (.tmp 39) = _ := hF 18 (det 39 _) (by decide) (.tail _ (.tail _ (.tail _ (.head _))))
      exact e39
    refine Build.skipu 44 (by rfl) (by rfl) rfl rfl ?_ ?_
    · intro ax wx hE hR hF
      have e39 : ax.eval (.tmp 39) = _ := hF 18 (det 39 _) (by decide) (.tail _ (.tail _ (.tail _ (.tail _ (.head _)))))
      have e42 : ax.eval (.tmp 42) = _ := hF 21 (det 42 _) (by decide) (.tail _ (.head _))
      have e43 : ax.eval (.tmp 43) = _ := hF 22 (det 43 _) (by decide) (.head _)
      exact e39
    refine Build.skipu 45 (by rfl) (by rfl) rfl rfl ?_ ?_
    · intro ax wx hE hR hF
      have e35 : ax.eval (.tmp 35) = _ := hF 14 (det 35 _) (by decide) (.tail _ (.tail _ (.tail _ (.tail _ (.tail _ (.tail _ (.tail _ (.tail _ (.tail _ (.head _))))))))))
      have e39 : ax.eval (.tmp 39) = _ := hF 18 (det 39 _) (by decide) (.tail _ (.tail _ (.tail _ (.tail _ (.tail _ (.head _))))))
      have e44 : ax.eval (.tmp 44) = _ := hF 23 (det 44 _) (by decide) (.head _)
      exact e35
    refine Build.skip 46 (by rfl) (by rfl) rfl rfl ?_ ?_
    · intro ax wx hE hR hF
      have e31 : ax.eval (.tmp 31) = _ := hF 10 (det 31 _) (by decide) (.tail _ (.tail _ (.tail _ (.tail _ (.tail _ (.tail _ (.tail _ (.tail _ (.tail _ (.tail _ (.tail _ (.tail _ (.tail _ (.tail _ (.head _)))))))))))))))
      have e35 : ax.eval (.tmp 35) = _ := hF 14 (det 35 _) (by decide) (.tail _ (.tail _ (.tail _ (.tail _ (.tail _ (.tail _ (.tail _ (.tail _ (.tail _ (.tail _ (.head _)))))))))))
      have e45 : ax.eval (.tmp 45) = _ := hF 24 (det 45 _) (by decide) (.head _)
      exact e31
    apply Build.det 47 Ext.refl (by rfl) (by rfl) rfl
    case h =>   -- 26: t47 := Op.pick (tmp 31) (tmp 46) (const (Value.bool false))
      intro ax wx hE hR hF
      have e31 : ax.eval (.tmp 31) = _ := hF 10 (det 31 _) (by decide) (.tail _ (.tail _ (.tail _ (.tail _ (.tail _ (.tail _ (.tail _ (.tail _ (.tail _ (.tail _ (.tail _ (.tail _ (.tail _ (.tail _ (.tail _ (.head _))))))))))))))))
      have e46 : ax.eval (.tmp 46) = _ := hF 25 (det 46 _) (by decide) (.head _)
      simp [go_sem, BigFrame.eval_const, BigFrame.eval_global, BigFrame.eval_func, ↓IntWalk.iteOmega, ev e31, ev e46, d1]
      with_reducible rfl
    apply Build.stop
    refine ⟨by kernel_rfl, .inr ⟨by kernel_rfl, _, rfl, rfl, ?_⟩⟩
    intro ax w4 hE R4 hF
    have e21 : ax.eval (.tmp 21) = _ := hF 0 (det 21 _) (.tail _ (.tail _ (.tail _ (.tail _ (.tail _ (.tail _ (.tail _ (.tail _ (.tail _ (.tail _ (.tail _ (.tail _ (.tail _ (.tail _ (.tail _ (.tail _ (.tail _ (.tail _ (.tail _ (.tail _ (.tail _ (.tail _ (.tail _ (.tail _ (.tail _ (.tail _ (.head _)))))))))))))))))))))))))))
    have e22 : ax.eval (.tmp 22) = _ := hF 1 (det 22 _) (.tail _ (.tail _ (.tail _ (.tail _ (.tail _ (.tail _ (.tail _ (.tail _ (.tail _ (.tail _ (.tail _ (.tail _ (.tail _ (.tail _ (.tail _ (.tail _ (.tail _ (.tail _ (.tail _ (.tail _ (.tail _ (.tail _ (.tail _ (.tail _ (.tail _ (.head _))))))))))))))))))))))))))
    have e23 : ax.eval (.tmp 23) = _ := hF 2 (det 23 _) (.tail _ (.tail _ (.tail _ (.tail _ (.tail _ (.tail _ (.tail _ (.tail _ (.tail _ (.tail _ (.tail _ (.tail _ (.tail _ (.tail _ (.tail _ (.tail _ (.tail _ (.tail _ (.tail _ (.tail _ (.tail _ (.tail _ (.tail _ (.tail _ (.head _)))))))))))))))))))))))))
    have e24 : ax.eval (.tmp 24) = _ := hF 3 (det 24 _) (.tail _ (.tail _ (.tail _ (.tail _ (.tail _ (.tail _ (.tail _ (.tail _ (.tail _ (.tail _ (.tail _ (.tail _ (.tail _ (.tail _ (.tail _ (.tail _ (.tail _ (.tail _ (.tail _ (.tail _ (.tail _ (.tail _ (.tail _ (.head _))))))))))))))))))))))))
    have e25 : ax.eval (.tmp 25) = _ := hF 4 (det 25 _) (.tail _ (.tail _ (.tail _ (.tail _ (.tail _ (.tail _ (.tail _ (.tail _ (.tail _ (.tail _ (.tail _ (.tail _ (.tail _ (.tail _ (.tail _ (.tail _ (.tail _ (.tail _ (.tail _ (.tail _ (.tail _ (.tail _ (.head _)))))))))))))))))))))))
    have e26 : ax.eval (.tmp 26) = _ := hF 5 (det 26 _) (.tail _ (.tail _ (.tail _ (.tail _ (.tail _ (.tail _ (.tail _ (.tail _ (.tail _ (.tail _ (.tail _ (.tail _ (.tail _ (.tail _ (.tail _ (.tail _ (.tail _ (.tail _ (.tail _ (.tail _ (.tail _ (.head _))))))))))))))))))))))
    have e27 : ax.eval (.tmp 27) = _ := hF 6 (det 27 _) (.tail _ (.tail _ (.tail _ (.tail _ (.tail _ (.tail _ (.tail _ (.tail _ (.tail _ (.tail _ (.tail _ (.tail _ (.tail _ (.tail _ (.tail _ (.tail _ (.tail _ (.tail _ (.tail _ (.tail _ (.head _)))))))))))))))))))))
    have e28 : ax.eval (.tmp 28) = _ := hF 7 (det 28 _) (.tail _ (.tail _ (.tail _ (.tail _ (.tail _ (.tail _ (.tail _ (.tail _ (.tail _ (.tail _ (.tail _ (.tail _ (.tail _ (.tail _ (.tail _ (.tail _ (.tail _ (.tail _ (.tail _ (.head _))))))))))))))))))))
    have e29 : ax.eval (.tmp 29) = _ := hF 8 (det 29 _) (.tail _ (.tail _ (.tail _ (.tail _ (.tail _ (.tail _ (.tail _ (.tail _ (.tail _ (.tail _ (.tail _ (.tail _ (.tail _ (.tail _ (.tail _ (.tail _ (.tail _ (.tail _ (.head _)))))))))))))))))))
    have e30 : ax.eval (.tmp 30) = _ := hF 9 (det 30 _) (.tail _ (.tail _ (.tail _ (.tail _ (.tail _ (.tail _ (.tail _ (.tail _ (.tail _ (.tail _ (.tail _ (.tail _ (.tail _ (.tail _ (.tail _ (.tail _ (.tail _ (.head _))))))))))))))))))
    have e31 : ax.eval (.tmp 31) = _ := hF 10 (det 31 _) (.tail _ (.tail _ (.tail _ (.tail _ (.tail _ (.tail _ (.tail _ (.tail _ (.tail _ (.tail _ (.tail _ (.tail _ (.tail _ (.tail _ (.tail _ (.tail _ (.head _)))))))))))))))))
    have e32 : ax.eval (.tmp 32) = _ := hF 11 (det 32 _) (.tail _ (.tail _ (.tail _ (.tail _ (.tail _ (.tail _ (.tail _ (.tail _ (.tail _ (.tail _ (.tail _ (.tail _ (.tail _ (.tail _ (.tail _ (.head _))))))))))))))))
    have e33 : ax.eval (.tmp 33) = _ := hF 12 (det 33 _) (.tail _ (.tail _ (.tail _ (.tail _ (.tail _ (.tail _ (.tail _ (.tail _ (.tail _ (.tail _ (.tail _ (.tail _ (.tail _ (.tail _ (.head _)))))))))))))))
    have e34 : ax.eval (.tmp 34) = _ := hF 13 (det 34 _) (.tail _ (.tail _ (.tail _ (.tail _ (.tail _ (.tail _ (.tail _ (.tail _ (.tail _ (.tail _ (.tail _ (.tail _ (.tail _ (.head _))))))))))))))
    have e35 : ax.eval (.tmp 35) = _ := hF 14 (det 35 _) (.tail _ (.tail _ (.tail _ (.tail _ (.tail _ (.tail _ (.tail _ (.tail _ (.tail _ (.tail _ (.tail _ (.tail _ (.head _)))))))))))))
    have e36 : ax.eval (.tmp 36) = _ := hF 15 (det 36 _) (.tail _ (.tail _ (.tail _ (.tail _ (.tail _ (.tail _ (.tail _ (.tail _ (.tail _ (.tail _ (.tail _ (.head _))))))))))))
    have e37 : ax.eval (.tmp 37) = _ := hF 16 (det 37 _) (.tail _ (.tail _ (.tail _ (.tail _ (.tail _ (.tail _ (.tail _ (.tail _ (.tail _ (.tail _ (.head _)))))))))))
    have e38 : ax.eval (.tmp 38) = _ := hF 17 (det 38 _) (.tail _ (.tail _ (.tail _ (.tail _ (.tail _ (.tail _ (.tail _ (.tail _ (.tail _ (.head _))))))))))
    have e39 : ax.eval (.tmp 39) = _ := hF 18 (det 39 _) (.tail _ (.tail _ (.tail _ (.tail _ (.tail _ (.tail _ (.tail _ (.tail _ (.head _)))))))))
    have e40 : ax.eval (.tmp 40) = _ := hF 19 (det 40 _) (.tail _ (.tail _ (.tail _ (.tail _ (.tail _ (.tail _ (.tail _ (.head _))))))))
    have e41 : ax.eval (.tmp 41) = _ := hF 20 (det 41 _) (.tail _ (.tail _ (.tail _ (.tail _ (.tail _ (.tail _ (.head _)))))))
    have e42 : ax.eval (.tmp 42) = _ := hF 21 (det 42 _) (.tail _ (.tail _ (.tail _ (.tail _ (.tail _ (.head _))))))
    have e43 : ax.eval (.tmp 43) = _ := hF 22 (det 43 _) (.tail _ (.tail _ (.tail _ (.tail _ (.head _)))))
    have e44 : ax.eval (.tmp 44) = _ := hF 23 (det 44 _) (.tail _ (.tail _ (.tail _ (.head _))))
    have e45 : ax.eval (.tmp 45) = _ := hF 24 (det 45 _) (.tail _ (.tail _ (.head _)))
    have e46 : ax.eval (.tmp 46) = _ := hF 25 (det 46 _) (.tail _ (.head _))
    have e47 : ax.eval (.tmp 47) = _ := hF 26 (det 47 _) (.head _)
    rw [AllEq.frame (D := [21, 22, 23, 24, 25, 26, 27, 28, 29, 30, 31, 32, 33, 34, 35, 36, 37, 38, 39, 40, 41, 42, 43, 44, 45, 46, 47]) (AllEq.cons e21 (AllEq.cons e22 (AllEq.cons e23 (AllEq.cons e24 (AllEq.cons e25 (AllEq.cons e26 (AllEq.cons e27 (AllEq.cons e28 (AllEq.cons e29 (AllEq.cons e30 (AllEq.cons e31 (AllEq.cons e32 (AllEq.cons e33 (AllEq.cons e34 (AllEq.cons e35 (AllEq.cons e36 (AllEq.cons e37 (AllEq.cons e38 (AllEq.cons e39 (AllEq.cons e40 (AllEq.cons e41 (AllEq.cons e42 (AllEq.cons e43 (AllEq.cons e44 (AllEq.cons e45 (AllEq.cons e46 (AllEq.cons e47 (AllEq.nil)))))))))))))))))))))))))))) hE rfl]
    clear hF hE e21 e22 e23 e24 e25 e26 e27 e28 e29 e30 e31 e32 e33 e34 e35 e36 e37 e38 e39 e40 e41 e42 e43 e44 e45 e46 e47
    simp only [List.foldl_cons, List.foldl_nil, Act.put, List.setIfInBounds_toArray, List.set_cons_succ, List.set_cons_zero]
    have HE4 := Lib.hid (HE3.out.trans R4)
    clear R4 HQ1 HQ2
    go_wp2_with fail
    go_ret
    exact ⟨by rw [HRES.out]; rfl, HE4.out⟩
end Go.Proofs.Ytdpohbaeopidmaa
