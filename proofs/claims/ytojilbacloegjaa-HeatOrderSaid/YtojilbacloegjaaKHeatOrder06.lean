/- Heat: the reference; books as things of one's own. -/
import Derived.Test.YtojilbacloegjaaKHeatOrder05
namespace Go.Proofs.Ytojilbacloegjaa
set_option linter.unusedVariables false
set_option linter.unusedSimpArgs false
open Go.RowKit Go.Maps

theorem HB.same {w w' : World} {b n : Nat} {u : Int → Int} (h : HB w b n u) (hs : w.heap.size ≤ w'.heap.size) (hb : w'.heap[b]? = w.heap[b]?) : HB w' b n u := by
  obtain ⟨D, ⟨es, clock, h1, h2⟩, h3⟩ := h
  exact ⟨D, ⟨es, clock, hb.trans h1, h2⟩, h3⟩
/-- A book of heats. -/
def tBook (pb mb n : Nat) (u : Int → Int) : Thing where
  foot := [pb, mb]
  holds := fun w => Bk w pb mb n u
  keep := fun w w' hs h hb => ⟨(h pb (by simp)).trans hb.blk, hb.hb.same hs (h mb (by simp))⟩
  lt := fun w h i hi => by
    simp at hi
    rcases hi with rfl | rfl
    · exact h.blk.lt
    · exact h.hb.lt
/-- The reference's book. -/
def RB (w : World) (g : Nat) (u : Int → Int) : Prop := ∃ cs : Array Value, Blk w g 58 cs ∧ cs.size = 1024 ∧ ∀ i : Nat, i < 1024 → cs[i]? = some (.int .i64 (u i))
section
variable {w w' : World} {g : Nat} {u : Int → Int}
theorem RB.lt (h : RB w g u) : g < w.heap.size := by
  obtain ⟨cs, h, _⟩ := h
  exact h.lt
theorem RB.cell (h : RB w g u) {k : Nat} (hk : k < 1024) : w.cell? ⟨g, k, none⟩ = some (.int .i64 (u k)) := by
  obtain ⟨cs, h1, _, h2⟩ := h
  rw [h1.cell, h2 k hk]
theorem RB.frozen (h : RB w g u) (k : Nat) : w.frozen? ⟨g, k, none⟩ = false := by
  obtain ⟨cs, h1, _, h2⟩ := h
  exact h1.frozen k
theorem RB.ext (h : RB w g u) (k : Ext w w') : RB w' g u := by
  obtain ⟨cs, h1, h2⟩ := h
  exact ⟨cs, h1.ext k, h2⟩
theorem RB.set (h : RB w g u) {k : Nat} (hk : k < 1024) (v : Int) : RB (w.setCell ⟨g, k, none⟩ (.int .i64 v)) g (updU u k v) := by
  obtain ⟨cs, h1, h2, h3⟩ := h
  refine ⟨_, h1.set_ k _, by simp [h2], fun i hi => ?_⟩
  unfold updU
  rw [Array.getElem?_setIfInBounds]
  by_cases e : k = i
  · subst e
    simp [h2, hi]
  · rw [if_neg e, if_neg (by omega), h3 i hi]
theorem RB.congr {v : Int → Int} (h : RB w g u) (hv : ∀ i : Nat, i < 1024 → u i = v i) : RB w g v := by
  obtain ⟨cs, h1, h2, h3⟩ := h
  exact ⟨cs, h1, h2, fun i hi => by rw [h3 i hi, hv i hi]⟩
end
def tRB (g : Nat) (u : Int → Int) : Thing where
  foot := [g]
  holds := fun w => RB w g u
  keep := fun w w' hs h hb => by
    obtain ⟨cs, h1, h2⟩ := hb
    exact ⟨cs, (h g (by simp)).trans h1, h2⟩
  lt := fun w h i hi => by
    simp at hi
    subst hi
    exact h.lt
theorem chg_set {w : World} {g k : Nat} {u : Value} : Chg [g] w (w.setCell ⟨g, k, none⟩ u) := (Chg.refl _ _).set (.inl (by simp)) u

set_option maxHeartbeats 1000000 in
theorem rtouch_no (w : World) (g : Nat) (c k : Int) (hk : c < 1 ∨ 1023 < c ∨ k ≤ 0) :
    Calls Try.prog 22 #[.pointer (some ⟨g, 0, none⟩), .int .i64 c, .int .i64 k] w fun e w' => e = .returned (.tuple #[]) ∧ w = w' := by
  go_enter Try.func22, Try.ntmps22
  by_cases h1 : c < 1
  · clear hk
    go_wp2
    go_returns
    exact ⟨rfl, rfl⟩
  · by_cases h2 : 1023 < c
    · clear hk
      go_wp2
      go_returns
      exact ⟨rfl, rfl⟩
    · have h3 : k ≤ 0 := by omega
      clear hk
      go_wp2
      go_returns
      exact ⟨rfl, rfl⟩

set_option maxRecDepth 100000 in
set_option maxHeartbeats 2000000 in
theorem rtouch_yes (w : World) (g : Nat) (u : Int → Int) (c : Nat) (k : Int) (h1 : 1 ≤ c) (h2 : c ≤ 1023) (h3 : 0 < k) (h4 : k ≤ 9223372036854775807) (hB : RB w g u) (hH : Heats u) :
    Calls Try.prog 22 #[.pointer (some ⟨g, 0, none⟩), .int .i64 c, .int .i64 k] w fun e w' => e = .returned (.tuple #[]) ∧ RB w' g (updU u c (min (u c + min k 1048576) 1048576)) ∧ Chg [g] w w' := by
  have hu := hH c
  have q0 := hB.cell (k := c) (by omega)
  have q1 := hB.frozen c
  obtain ⟨v, hv⟩ : ∃ v, u c = v := ⟨_, rfl⟩
  rw [hv] at hu q0 ⊢
  have HB0 := Lib.hid hB
  have HV := Lib.hid hv
  clear hH hv hB
  by_cases hc : 1048576 - v < k
  · have e1 : min (v + min k 1048576) 1048576 = 1048576 := by omega
    rw [e1]
    clear e1
    go_enter Try.func22, Try.ntmps22
    go_wp2
    go_end0
    exact ⟨rfl, HB0.out.set (by omega) _, chg_set⟩
  · have e1 : min (v + min k 1048576) 1048576 = v + k := by omega
    have hw : IntKind.i64.wrap (v + k) = v + k := IntWalk.i64_in _ (by omega)
    rw [e1]
    clear e1
    go_enter Try.func22, Try.ntmps22
    go_upto_region 3 with fail
    refine wp_typed (R := Ext) (w0 := w) [[], [], [], [], [2], [2, 3, 4], [2, 3, 4, 5], [], [2, 3, 4, 5, 6, 7], [0], [0, 1, 2, 3, 4, 5, 6, 7, 8, 9], [0, 1, 2, 3, 4, 5, 6, 7, 8, 9, 10]] [28, 29, 30, 31, 32, 33, 34, 35, 36, 37, 38] Ext.refl (fun _ _ _ => Ext.trans) (Ext.drew _) (by kernel_rfl) ?_
    apply Build.det 28 Ext.refl (by rfl) (by rfl) rfl
    case h =>   -- 0: t28 := Op.move (tmp 0)
      intro ax wx hE hR hF
      have e0 : ax.eval (.tmp 0) = .pointer (some ⟨g, 0, none⟩) := hE.eval 0 (by rfl) rfl
      simp [go_sem, BigFrame.eval_const, BigFrame.eval_global, BigFrame.eval_func, ↓IntWalk.iteOmega, ev e0]
      with_reducible rfl
    apply Build.det 29 Ext.refl (by rfl) (by rfl) rfl
    case h =>   -- 1: t29 := Op.move (tmp 1)
      intro ax wx hE hR hF
      have e1 : ax.eval (.tmp 1) = .int .i64 c := hE.eval 1 (by rfl) rfl
      simp [go_sem, BigFrame.eval_const, BigFrame.eval_global, BigFrame.eval_func, ↓IntWalk.iteOmega, ev e1]
      with_reducible rfl
    apply Build.det 30 Ext.refl (by rfl) (by rfl) rfl
    case h =>   -- 2: t30 := Op.move (tmp 0)
      intro ax wx hE hR hF
      have e0 : ax.eval (.tmp 0) = .pointer (some ⟨g, 0, none⟩) := hE.eval 0 (by rfl) rfl
      simp [go_sem, BigFrame.eval_const, BigFrame.eval_global, BigFrame.eval_func, ↓IntWalk.iteOmega, ev e0]
      with_reducible rfl
    apply Build.det 31 Ext.refl (by rfl) (by rfl) rfl
    case h =>   -- 3: t31 := Op.move (tmp 1)
      intro ax wx hE hR hF
      have e1 : ax.eval (.tmp 1) = .int .i64 c := hE.eval 1 (by rfl) rfl
      simp [go_sem, BigFrame.eval_const, BigFrame.eval_global, BigFrame.eval_func, ↓IntWalk.iteOmega, ev e1]
      with_reducible rfl
    apply Build.det 32 Ext.refl (by rfl) (by rfl) rfl
    case h =>   -- 4: t32 := Op.nilCheck (tmp 30)
      intro ax wx hE hR hF
      have e30 : ax.eval (.tmp 30) = _ := hF 2 (det 30 _) (by decide) (.tail _ (.head _))
      simp [go_sem, BigFrame.eval_const, BigFrame.eval_global, BigFrame.eval_func, ↓IntWalk.iteOmega, ev e30]
      with_reducible rfl
    apply Build.det 33 Ext.refl (by rfl) (by rfl) rfl
    case h =>   -- 5: t33 := Op.indexAddr 58 (tmp 32) (tmp 31)
      intro ax wx hE hR hF
      have e31 : ax.eval (.tmp 31) = _ := hF 3 (det 31 _) (by decide) (.tail _ (.head _))
      have e32 : ax.eval (.tmp 32) = _ := hF 4 (det 32 _) (by decide) (.head _)
      simp [go_sem, BigFrame.eval_const, BigFrame.eval_global, BigFrame.eval_func, ↓IntWalk.iteOmega, ev e31, ev e32]
      with_reducible rfl
    apply Build.det 34 Ext.refl (by rfl) (by rfl) rfl
    case h =>   -- 6: t34 := Op.load 3 (tmp 33)
      intro ax wx hE hR hF
      have e33 : ax.eval (.tmp 33) = _ := hF 5 (det 33 _) (by decide) (.head _)
      have hX := (HB0.out.ext hR).cell (k := c) (by omega); rw [HV.out] at hX
      simp [go_sem, BigFrame.eval_const, BigFrame.eval_global, BigFrame.eval_func, ↓IntWalk.iteOmega, ev e33, hX]
      with_reducible rfl
    apply Build.det 35 Ext.refl (by rfl) (by rfl) rfl
    case h =>   -- 7: t35 := Op.move (tmp 2)
      intro ax wx hE hR hF
      have e2 : ax.eval (.tmp 2) = .int .i64 k := hE.eval 2 (by rfl) rfl
      simp [go_sem, BigFrame.eval_const, BigFrame.eval_global, BigFrame.eval_func, ↓IntWalk.iteOmega, ev e2]
      with_reducible rfl
    apply Build.det 36 Ext.refl (by rfl) (by rfl) rfl
    case h =>   -- 8: t36 := Op.binOp BinOp.add 3 (tmp 34) (tmp 35) 3
      intro ax wx hE hR hF
      have e34 : ax.eval (.tmp 34) = _ := hF 6 (det 34 _) (by decide) (.tail _ (.head _))
      have e35 : ax.eval (.tmp 35) = _ := hF 7 (det 35 _) (by decide) (.head _)
      simp [go_sem, BigFrame.eval_const, BigFrame.eval_global, BigFrame.eval_func, ↓IntWalk.iteOmega, ev e34, ev e35, hw]
      with_reducible rfl
    apply Build.det 37 Ext.refl (by rfl) (by rfl) rfl
    case h =>   -- 9: t37 := Op.nilCheck (tmp 28)
      intro ax wx hE hR hF
      have e28 : ax.eval (.tmp 28) = _ := hF 0 (det 28 _) (by decide) (.tail _ (.tail _ (.tail _ (.tail _ (.tail _ (.tail _ (.tail _ (.tail _ (.head _)))))))))
      simp [go_sem, BigFrame.eval_const, BigFrame.eval_global, BigFrame.eval_func, ↓IntWalk.iteOmega, ev e28]
      with_reducible rfl
    apply Build.det 38 Ext.refl (by rfl) (by rfl) rfl
    case h =>   -- 10: t38 := Op.indexAddr 58 (tmp 37) (tmp 29)
      intro ax wx hE hR hF
      have e29 : ax.eval (.tmp 29) = _ := hF 1 (det 29 _) (by decide) (.tail _ (.tail _ (.tail _ (.tail _ (.tail _ (.tail _ (.tail _ (.tail _ (.head _)))))))))
      have e37 : ax.eval (.tmp 37) = _ := hF 9 (det 37 _) (by decide) (.head _)
      simp [go_sem, BigFrame.eval_const, BigFrame.eval_global, BigFrame.eval_func, ↓IntWalk.iteOmega, ev e29, ev e37]
      with_reducible rfl
    apply Build.stop
    refine ⟨by kernel_rfl, .inr ⟨by kernel_rfl, _, rfl, rfl, ?_⟩⟩
    intro ax w2 hE R2 hF
    have e28 : ax.eval (.tmp 28) = _ := hF 0 (det 28 _) (.tail _ (.tail _ (.tail _ (.tail _ (.tail _ (.tail _ (.tail _ (.tail _ (.tail _ (.tail _ (.head _)))))))))))
    have e29 : ax.eval (.tmp 29) = _ := hF 1 (det 29 _) (.tail _ (.tail _ (.tail _ (.tail _ (.tail _ (.tail _ (.tail _ (.tail _ (.tail _ (.head _))))))))))
    have e30 : ax.eval (.tmp 30) = _ := hF 2 (det 30 _) (.tail _ (.tail _ (.tail _ (.tail _ (.tail _ (.tail _ (.tail _ (.tail _ (.head _)))))))))
    have e31 : ax.eval (.tmp 31) = _ := hF 3 (det 31 _) (.tail _ (.tail _ (.tail _ (.tail _ (.tail _ (.tail _ (.tail _ (.head _))))))))
    have e32 : ax.eval (.tmp 32) = _ := hF 4 (det 32 _) (.tail _ (.tail _ (.tail _ (.tail _ (.tail _ (.tail _ (.head _)))))))
    have e33 : ax.eval (.tmp 33) = _ := hF 5 (det 33 _) (.tail _ (.tail _ (.tail _ (.tail _ (.tail _ (.head _))))))
    have e34 : ax.eval (.tmp 34) = _ := hF 6 (det 34 _) (.tail _ (.tail _ (.tail _ (.tail _ (.head _)))))
    have e35 : ax.eval (.tmp 35) = _ := hF 7 (det 35 _) (.tail _ (.tail _ (.tail _ (.head _))))
    have e36 : ax.eval (.tmp 36) = _ := hF 8 (det 36 _) (.tail _ (.tail _ (.head _)))
    have e37 : ax.eval (.tmp 37) = _ := hF 9 (det 37 _) (.tail _ (.head _))
    have e38 : ax.eval (.tmp 38) = _ := hF 10 (det 38 _) (.head _)
    rw [AllEq.frame (D := [28, 29, 30, 31, 32, 33, 34, 35, 36, 37, 38]) (AllEq.cons e28 (AllEq.cons e29 (AllEq.cons e30 (AllEq.cons e31 (AllEq.cons e32 (AllEq.cons e33 (AllEq.cons e34 (AllEq.cons e35 (AllEq.cons e36 (AllEq.cons e37 (AllEq.cons e38 (AllEq.nil)))))))))))) hE rfl]
    clear hF hE e28 e29 e30 e31 e32 e33 e34 e35 e36 e37 e38
    simp only [List.foldl_cons, List.foldl_nil, Act.put, List.setIfInBounds_toArray, List.set_cons_succ, List.set_cons_zero]
    have hB2 := HB0.out.ext R2
    have q2 := hB2.frozen c
    have q3 := hB2.cell (k := c) (by omega)
    have HR := Lib.hid (And.intro hB2 R2)
    clear hB2 R2 q0 q1
    go_wp2
    go_end0
    exact ⟨rfl, HR.out.1.set (by omega) _, (Chg.of_ext HR.out.2 _).trans chg_set⟩
theorem rtouch_any (w : World) (g : Nat) (u : Int → Int) (c k : Int) (hk : wfI k) (hB : RB w g u) (hH : Heats u) :
    Calls Try.prog 22 #[.pointer (some ⟨g, 0, none⟩), .int .i64 c, .int .i64 k] w fun e w' => e = .returned (.tuple #[]) ∧ RB w' g (touchU u c k) ∧ Chg [g] w w' := by
  by_cases h : c < 1 ∨ 1023 < c ∨ k ≤ 0
  · refine (rtouch_no w g c k h).mono ?_
    rintro e w' ⟨rfl, rfl⟩
    rw [touchU_no h]
    exact ⟨rfl, hB, Chg.refl _ _⟩
  · rw [touchU_yes h]
    have := bounds_i64 hk
    obtain ⟨n, rfl⟩ := Int.eq_ofNat_of_zero_le (show 0 ≤ c by omega)
    exact rtouch_yes w g u n k (by omega) (by omega) (by omega) (by omega) hB hH

set_option maxHeartbeats 1000000 in
theorem rof_any (w : World) (g : Nat) (u : Int → Int) (c : Int) (hB : RB w g u) (hH : Heats u) :
    Calls Try.prog 25 #[.pointer (some ⟨g, 0, none⟩), .int .i64 c] w fun e w' => e = .returned (.int .i64 (u c)) ∧ w = w' := by
  by_cases h : c < 1 ∨ 1023 < c
  · have e1 : u c = 0 := by
      have := (hH c).2.2
      by_cases e : u c = 0
      · exact e
      · have := this e; omega
    rw [e1]
    clear e1
    by_cases h1 : c < 1
    · clear h
      go_enter Try.func25, Try.ntmps25
      go_wp2
      go_ret
      exact ⟨rfl, rfl⟩
    · have h2 : 1023 < c := by omega
      clear h
      go_enter Try.func25, Try.ntmps25
      go_wp2
      go_ret
      exact ⟨rfl, rfl⟩
  · obtain ⟨n, rfl⟩ := Int.eq_ofNat_of_zero_le (show 0 ≤ c by omega)
    have q0 := hB.cell (k := n) (by omega)
    obtain ⟨v, hv⟩ : ∃ v, u n = v := ⟨_, rfl⟩
    rw [hv] at q0 ⊢
    clear hv hB hH
    have h1 : 1 ≤ n := by omega
    have h2 : n ≤ 1023 := by omega
    clear h
    go_enter Try.func25, Try.ntmps25
    go_wp2
    go_ret
    exact ⟨rfl, rfl⟩

def halfTo (u : Int → Int) (k : Nat) : Int → Int := fun i => if i < k then u i / 2 else u i
theorem halfTo_step (u : Int → Int) (k : Nat) : updU (halfTo u k) k (u k / 2) = halfTo u (k + 1) := by
  funext i
  unfold updU halfTo
  by_cases e : i = (k : Int)
  · subst e
    rw [if_pos rfl, if_pos (by omega)]
  · rw [if_neg e]
    by_cases h : i < (k : Int)
    · rw [if_pos h, if_pos (by omega)]
    · rw [if_neg h, if_neg (by omega)]

set_option maxRecDepth 100000 in
set_option maxHeartbeats 2000000 in
theorem rdecay_any (w : World) (g : Nat) (u : Int → Int) (hB : RB w g u) (hH : Heats u) :
    Calls Try.prog 23 #[.pointer (some ⟨g, 0, none⟩)] w fun e w' => e = .returned (.tuple #[]) ∧ RB w' g (fun i => u i / 2) ∧ Chg [g] w w' := by
  have h0 : RB w g (halfTo u 0) := hB.congr (fun i hi => by unfold halfTo; rw [if_neg (by omega)])
  have HH := Lib.hid hH
  clear hB hH
  go_enter Try.func23, Try.ntmps23
  go_wp2
  go_loopw [2] (fun i wr => ∃ k : Nat, k ≤ 1024 ∧ i = .int .i64 k ∧ RB wr g (halfTo u k) ∧ Chg [g] w wr) (fun i _ => 1024 - (intOf i).toNat)
  case atStart => exact ⟨0, by omega, rfl, h0, Chg.refl _ _⟩
  case round =>
    obtain ⟨k, hk, rfl, hR, hC⟩ := hrel
    clear h0
    by_cases hlt : k < 1024
    · obtain ⟨v, hv⟩ : ∃ v, u k = v := ⟨_, rfl⟩
      have hvb := HH.out k
      have q0 := hR.cell hlt
      have e1 : halfTo u k k = v := by unfold halfTo; rw [if_neg (by omega)]; exact hv
      rw [e1] at q0
      rw [hv] at hvb
      have q1 := hR.frozen k
      have HR := Lib.hid (And.intro hR (And.intro hC hv))
      have HE := Lib.hid e1
      clear hR hC hv e1
      have hd : Int.tdiv v 2 = v / 2 := Int.tdiv_eq_ediv_of_nonneg (by omega)
      go_upto_region 3 with fail
      refine wp_typed (R := Ext) (w0 := wr) [[], [], [], [], [2], [2, 3, 4], [2, 3, 4, 5], [2, 3, 4, 5, 6], [0], [0, 1, 2, 3, 4, 5, 6, 7, 8], [0, 1, 2, 3, 4, 5, 6, 7, 8, 9]] [7, 8, 9, 10, 11, 12, 13, 14, 15, 16] Ext.refl (fun _ _ _ => Ext.trans) (Ext.drew _) (by kernel_rfl) ?_
      apply Build.det 7 Ext.refl (by rfl) (by rfl) rfl
      case h =>   -- 0: t7 := Op.move (tmp 0)
        intro ax wx hE hR hF
        have e0 : ax.eval (.tmp 0) = .pointer (some ⟨g, 0, none⟩) := hE.eval 0 (by rfl) rfl
        simp [go_sem, BigFrame.eval_const, BigFrame.eval_global, BigFrame.eval_func, ↓IntWalk.iteOmega, ev e0]
        with_reducible rfl
      apply Build.det 8 Ext.refl (by rfl) (by rfl) rfl
      case h =>   -- 1: t8 := Op.move (tmp 2)
        intro ax wx hE hR hF
        have e2 : ax.eval (.tmp 2) = .int .i64 k := hE.eval 2 (by rfl) rfl
        simp [go_sem, BigFrame.eval_const, BigFrame.eval_global, BigFrame.eval_func, ↓IntWalk.iteOmega, ev e2]
        with_reducible rfl
      apply Build.det 9 Ext.refl (by rfl) (by rfl) rfl
      case h =>   -- 2: t9 := Op.move (tmp 0)
        intro ax wx hE hR hF
        have e0 : ax.eval (.tmp 0) = .pointer (some ⟨g, 0, none⟩) := hE.eval 0 (by rfl) rfl
        simp [go_sem, BigFrame.eval_const, BigFrame.eval_global, BigFrame.eval_func, ↓IntWalk.iteOmega, ev e0]
        with_reducible rfl
      apply Build.det 10 Ext.refl (by rfl) (by rfl) rfl
      case h =>   -- 3: t10 := Op.move (tmp 2)
        intro ax wx hE hR hF
        have e2 : ax.eval (.tmp 2) = .int .i64 k := hE.eval 2 (by rfl) rfl
        simp [go_sem, BigFrame.eval_const, BigFrame.eval_global, BigFrame.eval_func, ↓IntWalk.iteOmega, ev e2]
        with_reducible rfl
      apply Build.det 11 Ext.refl (by rfl) (by rfl) rfl
      case h =>   -- 4: t11 := Op.nilCheck (tmp 9)
        intro ax wx hE hR hF
        have e9 : ax.eval (.tmp 9) = _ := hF 2 (det 9 _) (by decide) (.tail _ (.head _))
        simp [go_sem, BigFrame.eval_const, BigFrame.eval_global, BigFrame.eval_func, ↓IntWalk.iteOmega, ev e9]
        with_reducible rfl
      apply Build.det 12 Ext.refl (by rfl) (by rfl) rfl
      case h =>   -- 5: t12 := Op.indexAddr 58 (tmp 11) (tmp 10)
        intro ax wx hE hR hF
        have e10 : ax.eval (.tmp 10) = _ := hF 3 (det 10 _) (by decide) (.tail _ (.head _))
        have e11 : ax.eval (.tmp 11) = _ := hF 4 (det 11 _) (by decide) (.head _)
        simp [go_sem, BigFrame.eval_const, BigFrame.eval_global, BigFrame.eval_func, ↓IntWalk.iteOmega, ev e10, ev e11]
        with_reducible rfl
      apply Build.det 13 Ext.refl (by rfl) (by rfl) rfl
      case h =>   -- 6: t13 := Op.load 3 (tmp 12)
        intro ax wx hE hR hF
        have e12 : ax.eval (.tmp 12) = _ := hF 5 (det 12 _) (by decide) (.head _)
        have hX := (HR.out.1.ext hR).cell hlt; rw [HE.out] at hX
        simp [go_sem, BigFrame.eval_const, BigFrame.eval_global, BigFrame.eval_func, ↓IntWalk.iteOmega, ev e12, hX]
        with_reducible rfl
      apply Build.det 14 Ext.refl (by rfl) (by rfl) rfl
      case h =>   -- 7: t14 := Op.binOp BinOp.quo 3 (tmp 13) (const (Value.int IntKind.i64 2)) 3
        intro ax wx hE hR hF
        have e13 : ax.eval (.tmp 13) = _ := hF 6 (det 13 _) (by decide) (.head _)
        simp [go_sem, BigFrame.eval_const, BigFrame.eval_global, BigFrame.eval_func, ↓IntWalk.iteOmega, ev e13, hd]
        with_reducible rfl
      apply Build.det 15 Ext.refl (by rfl) (by rfl) rfl
      case h =>   -- 8: t15 := Op.nilCheck (tmp 7)
        intro ax wx hE hR hF
        have e7 : ax.eval (.tmp 7) = _ := hF 0 (det 7 _) (by decide) (.tail _ (.tail _ (.tail _ (.tail _ (.tail _ (.tail _ (.tail _ (.head _))))))))
        simp [go_sem, BigFrame.eval_const, BigFrame.eval_global, BigFrame.eval_func, ↓IntWalk.iteOmega, ev e7]
        with_reducible rfl
      apply Build.det 16 Ext.refl (by rfl) (by rfl) rfl
      case h =>   -- 9: t16 := Op.indexAddr 58 (tmp 15) (tmp 8)
        intro ax wx hE hR hF
        have e8 : ax.eval (.tmp 8) = _ := hF 1 (det 8 _) (by decide) (.tail _ (.tail _ (.tail _ (.tail _ (.tail _ (.tail _ (.tail _ (.head _))))))))
        have e15 : ax.eval (.tmp 15) = _ := hF 8 (det 15 _) (by decide) (.head _)
        simp [go_sem, BigFrame.eval_const, BigFrame.eval_global, BigFrame.eval_func, ↓IntWalk.iteOmega, ev e8, ev e15]
        with_reducible rfl
      apply Build.stop
      refine ⟨by kernel_rfl, .inr ⟨by kernel_rfl, _, rfl, rfl, ?_⟩⟩
      intro ax w2 hE R2 hF
      have e7 : ax.eval (.tmp 7) = _ := hF 0 (det 7 _) (.tail _ (.tail _ (.tail _ (.tail _ (.tail _ (.tail _ (.tail _ (.tail _ (.tail _ (.head _))))))))))
      have e8 : ax.eval (.tmp 8) = _ := hF 1 (det 8 _) (.tail _ (.tail _ (.tail _ (.tail _ (.tail _ (.tail _ (.tail _ (.tail _ (.head _)))))))))
      have e9 : ax.eval (.tmp 9) = _ := hF 2 (det 9 _) (.tail _ (.tail _ (.tail _ (.tail _ (.tail _ (.tail _ (.tail _ (.head _))))))))
      have e10 : ax.eval (.tmp 10) = _ := hF 3 (det 10 _) (.tail _ (.tail _ (.tail _ (.tail _ (.tail _ (.tail _ (.head _)))))))
      have e11 : ax.eval (.tmp 11) = _ := hF 4 (det 11 _) (.tail _ (.tail _ (.tail _ (.tail _ (.tail _ (.head _))))))
      have e12 : ax.eval (.tmp 12) = _ := hF 5 (det 12 _) (.tail _ (.tail _ (.tail _ (.tail _ (.head _)))))
      have e13 : ax.eval (.tmp 13) = _ := hF 6 (det 13 _) (.tail _ (.tail _ (.tail _ (.head _))))
      have e14 : ax.eval (.tmp 14) = _ := hF 7 (det 14 _) (.tail _ (.tail _ (.head _)))
      have e15 : ax.eval (.tmp 15) = _ := hF 8 (det 15 _) (.tail _ (.head _))
      have e16 : ax.eval (.tmp 16) = _ := hF 9 (det 16 _) (.head _)
      rw [AllEq.frame (D := [7, 8, 9, 10, 11, 12, 13, 14, 15, 16]) (AllEq.cons e7 (AllEq.cons e8 (AllEq.cons e9 (AllEq.cons e10 (AllEq.cons e11 (AllEq.cons e12 (AllEq.cons e13 (AllEq.cons e14 (AllEq.cons e15 (AllEq.cons e16 (AllEq.nil))))))))))) hE rfl]
      clear hF hE e7 e8 e9 e10 e11 e12 e13 e14 e15 e16
      simp only [List.foldl_cons, List.foldl_nil, Act.put, List.setIfInBounds_toArray, List.set_cons_succ, List.set_cons_zero]
      have hB2 := HR.out.1.ext R2
      have q2 := hB2.frozen k
      have q3 := hB2.cell (k := k) (by omega)
      have H2 := Lib.hid (And.intro hB2 R2)
      clear hB2 R2 q0 q1 hd
      go_wp2
      go_roundw
      case rel =>
        have := H2.out.1.set hlt (v / 2)
        rw [show updU (halfTo u k) k (v / 2) = halfTo u (k + 1) by rw [← HR.out.2.2, halfTo_step]] at this
        exact ⟨k + 1, by omega, by go_num, this, (HR.out.2.1.trans (Chg.of_ext H2.out.2 _)).trans chg_set⟩
      case measure => simp [intOf]; omega
    · obtain rfl : 1024 = k := by omega
      have hfin : RB wr g (fun i => u i / 2) := hR.congr (fun i hi => by unfold halfTo; rw [if_pos (by omega)])
      have HF := Lib.hid hfin
      clear hR hfin
      go_wp2
      go_end0
      exact ⟨rfl, HF.out, hC⟩
end Go.Proofs.Ytojilbacloegjaa

/- Heat: nil books; the first look. -/
namespace Go.Proofs.Ytojilbacloegjaa
set_option linter.unusedVariables false
set_option linter.unusedSimpArgs false
open Go.RowKit Go.Maps

set_option maxHeartbeats 1000000 in
theorem touch_nil (w : World) (c k : Int) : Calls Try.prog 17 #[.pointer none, .int .i64 c, .int .i64 k] w fun e w' => e = .returned (.tuple #[]) ∧ w = w' := by
  go_enter Try.func17, Try.ntmps17
  go_wp2
  go_returns
  exact ⟨rfl, rfl⟩
theorem decay_nil (w : World) : Calls Try.prog 18 #[.pointer none] w fun e w' => e = .returned (.tuple #[]) ∧ w = w' := by
  go_enter Try.func18, Try.ntmps18
  go_wp2
  go_returns
  exact ⟨rfl, rfl⟩
theorem forget_nil (w : World) (c : Int) : Calls Try.prog 24 #[.pointer none, .int .i64 c] w fun e w' => e = .returned (.tuple #[]) ∧ w = w' := by
  go_enter Try.func24, Try.ntmps24
  go_wp2
  go_end0
  exact ⟨rfl, rfl⟩
theorem of_nil (w : World) (c : Int) : Calls Try.prog 19 #[.pointer none, .int .i64 c] w fun e w' => e = .returned (.int .i64 0) ∧ w = w' := by
  go_enter Try.func19, Try.ntmps19
  go_wp2
  go_ret
  exact ⟨rfl, rfl⟩
theorem sum_nil (w : World) : Calls Try.prog 20 #[.pointer none] w fun e w' => e = .returned (.int .i64 0) ∧ w = w' := by
  go_enter Try.func20, Try.ntmps20
  go_wp2
  go_ret
  exact ⟨rfl, rfl⟩
theorem hot_nil (w : World) : Calls Try.prog 21 #[.pointer none] w fun e w' => e = .returned (.slice none 0 0) ∧ w = w' := by
  go_enter Try.func21, Try.ntmps21
  go_wp2
  go_ret
  exact ⟨rfl, rfl⟩

section
variable {H : Nat} {A w w' : World} {L : List Thing} {pb mb n n' : Nat} {u u' : Int → Int}
theorem OwnT.book (h : OwnT H A (tBook pb mb n u :: L) w) (hB : Bk w' pb mb n' u') (hg : w.grownBy w' (some mb)) : OwnT H A (tBook pb mb n' u' :: L) w' :=
  h.call (Chg.of_grown hg) (fun i hi => by simp [tBook] at hi ⊢; exact .inr hi) (tBook pb mb n' u') hB (fun i hi => .inl hi)
theorem OwnT.newBook (h : OwnT H A L w) (k : Ext w w') (hB : Bk w' (w.heap.size + 1) w.heap.size n u) : OwnT H A (tBook (w.heap.size + 1) w.heap.size n u :: L) w' :=
  h.cons k (tBook (w.heap.size + 1) w.heap.size n u) hB (fun i hi => by simp [tBook] at hi; omega)
theorem OwnT.rb {ub : Nat} (h : OwnT H A (tRB ub u :: L) w) : RB w ub u := h.all.1
theorem OwnT.bk (h : OwnT H A (tBook pb mb n u :: L) w) : Bk w pb mb n u := h.all.1
end
def awU : Int → Int := fun i => touchU (fun _ => 0) 7 5 i / 2
theorem awU_heats : Heats awU := (Heats.zero.touch 7 5).half
theorem awU_7 : awU 7 = 2 := by decide +kernel
theorem awU_8 : awU 8 = 0 := by decide +kernel
theorem awU_sum : sumU awU = 2 := by decide +kernel
theorem awU_hot : hotL awU = [7] := by decide +kernel

set_option maxRecDepth 100000 in
set_option maxHeartbeats 2000000 in
theorem awake15 (w : World) : Calls Try.prog 15 #[] w fun e w' => e = .returned (.bool true) ∧ Ext w w' := by
  go_enter Try.func15, Try.ntmps15
  go_wp2_with fail
  refine (new_any _).mono ?_
  rintro e w1 ⟨rfl, hx1, hB1⟩
  have O1 := (OwnT.start w).newBook hx1 hB1
  clear hx1 hB1
  generalize w.heap.size + 1 = pb at O1 ⊢
  obtain ⟨mb, hmb⟩ : ∃ mb, w.heap.size = mb := ⟨_, rfl⟩
  have O1 : ∃ H, OwnT H w [tBook pb mb 0 (fun _ => 0)] w1 ∧ H = w.heap.size := ⟨_, hmb ▸ O1, rfl⟩
  obtain ⟨H, O1, hH⟩ := O1
  have HH := Lib.hid hH
  clear hH hmb
  go_wp2_with fail
  refine (touch_any _ pb mb 0 _ 7 5 (by decide) (by omega) O1.bk Heats.zero).mono ?_
  rintro e w2 ⟨rfl, hB2, hg2⟩
  have O2 := O1.book hB2 hg2
  clear O1 hB2 hg2
  go_wp2_with fail
  refine (decay_any _ pb mb _ _ O2.bk (Heats.zero.touch 7 5)).mono ?_
  rintro e w3 ⟨rfl, hB3, hg3⟩
  have O3 : OwnT H w [tBook pb mb _ awU] w3 := O2.book hB3 hg3
  clear O2 hB3 hg3
  go_wp2_with fail
  refine (hot_any _ pb mb _ _ O3.bk awU_heats (by omega)).mono ?_
  rw [awU_hot]
  rintro e w4 ⟨B, cap, rfl, hl, hm, hrow, hx4⟩
  have O4 := O3.ext hx4
  clear O3 hx4
  obtain ⟨b, off, rfl, hb, hc⟩ := hrow 0 7 rfl
  have q0 := hc 0 _ rfl
  simp at q0
  clear hrow hc
  have HO := Lib.hid O4
  clear O4
  have a7 := fun W hB => of_any W pb mb (0 + 1) awU 7 hB (by decide)
  rw [awU_7] at a7
  have a8 := fun W hB => of_any W pb mb (0 + 1) awU 8 hB (by decide)
  rw [awU_8] at a8
  have aS := fun W hB => sum_any W pb mb (0 + 1) awU hB awU_heats
  rw [awU_sum] at aS
  have A7 := Lib.hid a7
  have A8 := Lib.hid a8
  have AS := Lib.hid aS
  clear a7 a8 aS
  go_wp2_with fail
  refine (A7.out _ HO.out.bk).mono ?_
  rintro e w5 ⟨rfl, rfl⟩
  go_wp2_with fail
  refine (AS.out _ HO.out.bk).mono ?_
  rintro e w6 ⟨rfl, hx6⟩
  have HO6 := Lib.hid (HO.out.ext hx6)
  have q6 := (hx6.cell (p := ⟨b, off, none⟩) hb).trans q0
  clear hx6 q0
  go_wp2_with fail
  refine (A8.out _ HO6.out.bk).mono ?_
  rintro e w7 ⟨rfl, rfl⟩
  go_wp2_with fail
  go_ret
  have := HO6.out.below
  rw [HH.out] at this
  exact ⟨rfl, this⟩
end Go.Proofs.Ytojilbacloegjaa
