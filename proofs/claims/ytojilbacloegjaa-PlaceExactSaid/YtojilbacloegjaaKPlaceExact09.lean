/- tierceref14.Good. Printed by gen_placerefgood.py. -/
import Derived.Test.YtojilbacloegjaaKPlaceExact08
namespace Go.Proofs.Ytojilbacloegjaa
set_option linter.unusedVariables false
set_option linter.unusedSimpArgs false
open Go.RowKit

def pcC (x : PlD) : List Value := [.int .i64 x.1]
def psC (x : PlD) : List Value := [.int .i64 x.2.1, .int .i64 x.2.2]
theorem Row.pc_at {w w' : World} {A : Option Addr} {L : List PlD} (h : Row w A 1 pcC L) (hb : Below w.heap.size w w') {j : Nat} (hj : j < L.length) :
    ∃ b o, A = some ⟨b, o, none⟩ ∧ w'.cell? ⟨b, o + j, none⟩ = some (.int .i64 (cAt L j)) := by
  obtain ⟨b, o, hA, _, hc⟩ := h.in_ hb hj
  have e : L[j].1 = cAt L j := by simp [cAt, List.getD, hj]
  have := hc 0 (.int .i64 L[j].1) rfl
  rw [e, Nat.mul_one] at this
  exact ⟨b, o, hA, this⟩
theorem Row.ps_at {w w' : World} {A : Option Addr} {L : List PlD} (h : Row w A 2 psC L) (hb : Below w.heap.size w w') {j : Nat} (hj : j < L.length) :
    ∃ b o, A = some ⟨b, o, none⟩ ∧ w'.cell? ⟨b, o + j * 2, none⟩ = some (.int .i64 (tAt L j)) ∧ w'.cell? ⟨b, o + j * 2 + 1, none⟩ = some (.int .i64 (sAt L j)) := by
  obtain ⟨b, o, hA, _, hc⟩ := h.in_ hb hj
  have e : L[j].2.1 = tAt L j := by simp [tAt, List.getD, hj]
  have e2 : L[j].2.2 = sAt L j := by simp [sAt, List.getD, hj]
  have h0 := hc 0 (.int .i64 L[j].2.1) rfl
  have h1 := hc 1 (.int .i64 L[j].2.2) rfl
  rw [e] at h0
  rw [e2] at h1
  exact ⟨b, o, hA, h0, h1⟩
theorem seenB_no (L : List PlD) (j : Nat) (t s : Int) (h : ∀ m, m < j → ¬ (tAt L m = t ∧ sAt L m = s)) : seenB L j t s = false := by
  unfold seenB
  rw [List.any_eq_false]
  intro x hx hc
  obtain ⟨m, hm, rfl⟩ := List.getElem_of_mem hx
  simp only [List.length_take] at hm
  have hml : m < L.length := by omega
  refine h m (by omega) ?_
  simp only [List.getElem_take, Bool.and_eq_true, beq_iff_eq] at hc
  simpa [tAt, sAt, List.getD, hml] using hc
theorem seenB_yes (L : List PlD) (j m : Nat) (t s : Int) (hm : m < j) (hl : m < L.length) (h1 : tAt L m = t) (h2 : sAt L m = s) : seenB L j t s = true := by
  unfold seenB
  rw [List.any_eq_true]
  refine ⟨L[m], List.mem_take_iff_getElem.2 ⟨m, by omega, rfl⟩, ?_⟩
  simp [tAt, sAt, List.getD, hl] at h1 h2
  simp [h1, h2]

set_option maxRecDepth 100000 in
set_option maxHeartbeats 8000000 in
theorem rpgood_any (A1 A2 : Option Addr) (len cap1 cap2 : Nat) (L : List PlD) (s0 s1 : Int) (w : World) (hlen : L.length = len) (hm : len ≤ 1000000) (hrc : Row w A1 1 pcC L) (hrs : Row w A2 2 psC L) (hx : ∀ x ∈ L, wfP x) :
    Calls Try.prog 14 #[.slice A1 len cap1, .slice A2 len cap2, .agg #[.int .i64 s0, .int .i64 s1]] w fun e w' => e = .returned (.bool (goodPls L s0 s1)) ∧ Ext w w' := by
  obtain ⟨GB, hGB⟩ : ∃ g, goodPls L s0 s1 = g := ⟨_, rfl⟩
  have hgd : GB = true ↔ ∀ i, i < len → okP L s0 s1 i := by rw [← hGB, ← hlen]; unfold goodPls; simp
  rw [hGB]
  have HG := Lib.hid hgd
  clear hgd hGB
  go_enter Try.func14, Try.ntmps14
  go_upto_region 2 with fail
  go_loopw [7] (fun i wr => ∃ j : Nat, i = .int .i64 j ∧ j ≤ len ∧ Ext w wr ∧ Blk wr w.heap.size 30 #[.int .i64 s0, .int .i64 s1] ∧ Hid (∀ i, i < j → okP L s0 s1 i)) (fun i _ => len - (intOf i).toNat)
  case atStart => exact ⟨0, rfl, by omega, by (repeat (first | with_reducible exact Below.refl _ _ | with_reducible assumption | with_reducible apply Below.drew | with_reducible apply below_drewN | (with_reducible refine below_set ?_ ?_; focus ((try simp); (try omega); done)) | (with_reducible refine below_new ?_ ?_; focus ((try simp); (try omega); done)))), Blk.new _ _ _, fun i hi => absurd hi (by omega)⟩
  case round =>
    obtain ⟨j, rfl, hj, hEx0, hA0, HJ⟩ := hrel
    by_cases hlt : j < len
    · have hjx : j < L.length := by omega
      obtain ⟨b1, o1, rfl, hcl1⟩ := hrc.pc_at hEx0 hjx
      obtain ⟨b2, o2, rfl, hcl2, hcl3⟩ := hrs.ps_at hEx0 hjx
      clear hcl1 hcl2 hcl3
      have HP10 := fun (W : World) (h : Ext w W) => hrc.pc_at h hjx
      have HP20 := fun (W : World) (h : Ext w W) => hrs.ps_at h hjx
      have hstep : okP L s0 s1 j → ∀ i, i < j + 1 → okP L s0 s1 i := fun h i hi => by
        by_cases e : i = j
        · subst e; exact h
        · exact HJ.out i (by omega)
      have HS := Lib.hid hstep
      have hbad : ¬ okP L s0 s1 j → GB = false := fun h => by
        cases GB with
        | false => rfl
        | true => exact absurd (HG.out.1 rfl j (by omega)) h
      have HB := Lib.hid hbad
      obtain ⟨c, hc⟩ : ∃ c, cAt L j = c := ⟨_, rfl⟩
      obtain ⟨t, ht⟩ : ∃ t, tAt L j = t := ⟨_, rfl⟩
      obtain ⟨s, hs⟩ : ∃ s, sAt L j = s := ⟨_, rfl⟩
      rw [hc] at HP10
      rw [ht, hs] at HP20
      have HP1 := Lib.hid (fun (W : World) (h : Ext w W) => (by obtain ⟨_, _, he, h1⟩ := HP10 W h; cases he; exact h1 : W.cell? ⟨b1, o1 + j, none⟩ = some (.int .i64 c)))
      have HP2 := Lib.hid (fun (W : World) (h : Ext w W) => (by obtain ⟨_, _, he, h1, h2⟩ := HP20 W h; cases he; exact ⟨h1, h2⟩ : W.cell? ⟨b2, o2 + j * 2, none⟩ = some (.int .i64 t) ∧ W.cell? ⟨b2, o2 + j * 2 + 1, none⟩ = some (.int .i64 s)))
      have hCA := fun W => rcan_any c t s W
      have HOKI : GoodPl c t s → s < limOf s0 s1 t → seenB L j t s = false → (j = 0 ∨ cAt L (j - 1) < c) → okP L s0 s1 j := fun a b d e => by unfold okP; rw [hc, ht, hs]; exact ⟨a, b, d, e⟩
      have HOKE : okP L s0 s1 j → GoodPl c t s ∧ s < limOf s0 s1 t ∧ seenB L j t s = false ∧ (j = 0 ∨ cAt L (j - 1) < c) := fun h => by unfold okP at h; rw [hc, ht, hs] at h; exact h
      have HOKI := Lib.hid HOKI
      have HOKE := Lib.hid HOKE
      clear hstep hbad hc ht hs HP10 HP20
      go_upto_region 4 with fail
      by_cases hg : GoodPl c t s
      · rw [placeB_yes hg] at hCA
        have HCA := Lib.hid hCA
        obtain ⟨T, hTt, hT⟩ : ∃ T : Nat, t = T ∧ T < 2 := tier_nat hg
        have Hg := Lib.hid hg
        clear hCA hg
        subst hTt
        obtain ⟨lm, hlm⟩ : ∃ l, limOf s0 s1 (T : Int) = l := ⟨_, rfl⟩
        have HLM := Lib.hid hlm
        by_cases hl : s < lm
        · have dl : decide (lm ≤ s) = false := by rw [decide_eq_false_iff_not]; omega
          have Hl := Lib.hid hl
          clear hl
          by_cases hj0 : j = 0
          · have dg : decide ((0 : Int) < (j : Int)) = false := by rw [decide_eq_false_iff_not]; omega
            have dg2 : decide (0 < j) = false := by rw [decide_eq_false_iff_not]; omega
            have HOKW := Lib.hid (fun h => HOKI.out Hg.out (by rw [HLM.out]; exact Hl.out) h (.inl hj0))
            have dg3 : ¬ (0 < j) := by omega
            clear hj0
            refine wp_typed (R := Ext) (w0 := wr) [[], [], [0, 1], [0, 1, 2], [], [], [4, 5], [4, 5, 6], [0, 1, 2, 3, 4, 5, 6, 7], [0, 1, 2, 3, 4, 5, 6, 7, 8], [0, 1, 2, 3, 4, 5, 6, 7, 8, 9], [0, 1, 2, 3, 4, 5, 6, 7, 8, 9, 10], [0, 1, 2, 3, 4, 5, 6, 7, 8, 9, 10], [0, 1, 2, 3, 4, 5, 6, 7, 8, 9, 10, 11, 12], [0, 1, 2, 3, 4, 5, 6, 7, 8, 9, 10, 11, 12, 13], [0, 1, 2, 3, 4, 5, 6, 7, 8, 9, 10, 11, 12, 13, 14], [0, 1, 2, 3, 4, 5, 6, 7, 8, 9, 10], [0, 1, 2, 3, 4, 5, 6, 7, 8, 9, 10], [0, 1, 2, 3, 4, 5, 6, 7, 8, 9, 10, 16, 17], [0, 1, 2, 3, 4, 5, 6, 7, 8, 9, 10, 16, 17, 18], [0, 1, 2, 3, 4, 5, 6, 7, 8, 9, 10, 16, 17, 18, 19], [0, 1, 2, 3, 4, 5, 6, 7, 8, 9, 10, 16, 17, 18, 19, 20], [0, 1, 2, 3, 4, 5, 6, 7, 8, 9, 10, 16, 17, 18, 19, 20, 21], [0, 1, 2, 3, 4, 5, 6, 7, 8, 9, 10, 11, 12, 13, 14, 15, 16, 17, 18, 19, 20, 21, 22], [0, 1, 2, 3, 4, 5, 6, 7, 8, 9, 10, 11, 12, 13, 14, 15, 16, 17, 18, 19, 20, 21, 22, 23], [0, 1, 2, 3, 4, 5, 6, 7, 8, 9, 10, 11, 12, 13, 14, 15, 16, 17, 18, 19, 20, 21, 22, 23, 24], [0, 1, 2, 3, 4, 5, 6, 7, 8, 9, 10, 11, 12, 13, 14, 15, 16, 17, 18, 19, 20, 21, 22, 23, 24, 25], [0, 1, 2, 3, 4, 5, 6, 7, 8, 9, 10, 11, 12, 13, 14, 15, 16, 17, 18, 19, 20, 21, 22, 23, 24, 25, 26], [0, 1, 2, 3, 4, 5, 6, 7, 8, 9, 10, 11, 12, 13, 14, 15, 16, 17, 18, 19, 20, 21, 22, 23, 24, 25, 26, 27], [0, 1, 2, 3, 4, 5, 6, 7, 8, 9, 10, 11, 12, 13, 14, 15, 16, 17, 18, 19, 20, 21, 22, 23, 24, 25, 26, 27, 28], [0, 1, 2, 3, 4, 5, 6, 7, 8, 9, 10, 11, 12, 13, 14, 15, 16, 17, 18, 19, 20, 21, 22, 23, 24, 25, 26, 27, 28], [0, 1, 2, 3, 4, 5, 6, 7, 8, 9, 10, 11, 12, 13, 14, 15, 16, 17, 18, 19, 20, 21, 22, 23, 24, 25, 26, 27, 28, 30], [0, 1, 2, 3, 4, 5, 6, 7, 8, 9, 10, 11, 12, 13, 14, 15, 16, 17, 18, 19, 20, 21, 22, 23, 24, 25, 26, 27, 28, 29, 30, 31], [0, 1, 2, 3, 4, 5, 6, 7, 8, 9, 10, 11, 12, 13, 14, 15, 16, 17, 18, 19, 20, 21, 22, 23, 24, 25, 26, 27, 28, 29, 30, 31, 32], [0, 1, 2, 3, 4, 5, 6, 7, 8, 9, 10, 11, 12, 13, 14, 15, 16, 17, 18, 19, 20, 21, 22, 23, 24, 25, 26, 27, 28], [0, 1, 2, 3, 4, 5, 6, 7, 8, 9, 10, 11, 12, 13, 14, 15, 16, 17, 18, 19, 20, 21, 22, 23, 24, 25, 26, 27, 28], [0, 1, 2, 3, 4, 5, 6, 7, 8, 9, 10, 11, 12, 13, 14, 15, 16, 17, 18, 19, 20, 21, 22, 23, 24, 25, 26, 27, 28, 34, 35], [0, 1, 2, 3, 4, 5, 6, 7, 8, 9, 10, 11, 12, 13, 14, 15, 16, 17, 18, 19, 20, 21, 22, 23, 24, 25, 26, 27, 28, 34, 35, 36], [0, 1, 2, 3, 4, 5, 6, 7, 8, 9, 10, 11, 12, 13, 14, 15, 16, 17, 18, 19, 20, 21, 22, 23, 24, 25, 26, 27, 28, 29, 30, 31, 32, 33, 34, 35, 36, 37], [0, 1, 2, 3, 4, 5, 6, 7, 8, 9, 10, 11, 12, 13, 14, 15, 16, 17, 18, 19, 20, 21, 22, 23, 24, 25, 26, 27, 28, 29, 30, 31, 32, 33, 34, 35, 36, 37, 38], [0, 1, 2, 3, 4, 5, 6, 7, 8, 9, 10, 11, 12, 13, 14, 15, 16, 17, 18, 19, 20, 21, 22, 23, 24, 25, 26, 27, 28, 29, 30, 31, 32, 33, 34, 35, 36, 37, 38, 39]] [15, 16, 17, 18, 19, 20, 21, 22, 23, 24, 25, 26, 27, 28, 29, 30, 31, 32, 33, 34, 35, 36, 37, 38, 39, 40, 41, 42, 43, 44, 45, 46, 47, 48, 49, 50, 51, 52, 53, 54, 55] Ext.refl (fun _ _ _ => Ext.trans) (Ext.drew _) (by kernel_rfl) ?_
            apply Build.det 15 Ext.refl (by rfl) (by rfl) rfl
            case h =>   -- 0: t15 := Op.move (tmp 0)
              intro ax wx hE hR hF
              have e0 : ax.eval (.tmp 0) = .slice (some ⟨b1, o1, none⟩) len cap1 := hE.eval 0 (by rfl) rfl
              simp [go_sem, BigFrame.eval_const, BigFrame.eval_global, BigFrame.eval_func, ↓IntWalk.iteOmega, ev e0, dl, hlm, dg, dg2, dg3]
              with_reducible rfl
            apply Build.det 16 Ext.refl (by rfl) (by rfl) rfl
            case h =>   -- 1: t16 := Op.move (tmp 7)
              intro ax wx hE hR hF
              have e7 : ax.eval (.tmp 7) = .int .i64 (j : Int) := hE.eval 7 (by rfl) rfl
              simp [go_sem, BigFrame.eval_const, BigFrame.eval_global, BigFrame.eval_func, ↓IntWalk.iteOmega, ev e7, dl, hlm, dg, dg2, dg3]
              with_reducible rfl
            apply Build.det 17 Ext.refl (by rfl) (by rfl) rfl
            case h =>   -- 2: t17 := Op.indexAddr 41 (tmp 15) (tmp 16)
              intro ax wx hE hR hF
              have e15 : ax.eval (.tmp 15) = _ := hF 0 (det 15 _) (by decide) (.tail _ (.head _))
              have e16 : ax.eval (.tmp 16) = _ := hF 1 (det 16 _) (by decide) (.head _)
              simp [go_sem, BigFrame.eval_const, BigFrame.eval_global, BigFrame.eval_func, ↓IntWalk.iteOmega, ev e15, ev e16, dl, hlm, dg, dg2, dg3]
              with_reducible rfl
            apply Build.det 18 Ext.refl (by rfl) (by rfl) rfl
            case h =>   -- 3: t18 := Op.load 3 (tmp 17)
              intro ax wx hE hR hF
              have e17 : ax.eval (.tmp 17) = _ := hF 2 (det 17 _) (by decide) (.head _)
              have q0 := HP1.out _ (hEx0.trans hR); have q1 := HP2.out _ (hEx0.trans hR); obtain ⟨q1, q2⟩ := q1; have qa := (hA0.ext hR).cell T; rw [lim_at T hT] at qa
              simp [go_sem, BigFrame.eval_const, BigFrame.eval_global, BigFrame.eval_func, ↓IntWalk.iteOmega, ev e17, dl, hlm, dg, dg2, dg3, q0, q1, q2, qa]
              with_reducible rfl
            apply Build.det 19 Ext.refl (by rfl) (by rfl) rfl
            case h =>   -- 4: t19 := Op.move (tmp 1)
              intro ax wx hE hR hF
              have e1 : ax.eval (.tmp 1) = .slice (some ⟨b2, o2, none⟩) len cap2 := hE.eval 1 (by rfl) rfl
              simp [go_sem, BigFrame.eval_const, BigFrame.eval_global, BigFrame.eval_func, ↓IntWalk.iteOmega, ev e1, dl, hlm, dg, dg2, dg3]
              with_reducible rfl
            apply Build.det 20 Ext.refl (by rfl) (by rfl) rfl
            case h =>   -- 5: t20 := Op.move (tmp 7)
              intro ax wx hE hR hF
              have e7 : ax.eval (.tmp 7) = .int .i64 (j : Int) := hE.eval 7 (by rfl) rfl
              simp [go_sem, BigFrame.eval_const, BigFrame.eval_global, BigFrame.eval_func, ↓IntWalk.iteOmega, ev e7, dl, hlm, dg, dg2, dg3]
              with_reducible rfl
            apply Build.det 21 Ext.refl (by rfl) (by rfl) rfl
            case h =>   -- 6: t21 := Op.indexAddr 42 (tmp 19) (tmp 20)
              intro ax wx hE hR hF
              have e19 : ax.eval (.tmp 19) = _ := hF 4 (det 19 _) (by decide) (.tail _ (.head _))
              have e20 : ax.eval (.tmp 20) = _ := hF 5 (det 20 _) (by decide) (.head _)
              simp [go_sem, BigFrame.eval_const, BigFrame.eval_global, BigFrame.eval_func, ↓IntWalk.iteOmega, ev e19, ev e20, dl, hlm, dg, dg2, dg3]
              with_reducible rfl
            apply Build.det 22 Ext.refl (by rfl) (by rfl) rfl
            case h =>   -- 7: t22 := Op.load 23 (tmp 21)
              intro ax wx hE hR hF
              have e21 : ax.eval (.tmp 21) = _ := hF 6 (det 21 _) (by decide) (.head _)
              have q0 := HP1.out _ (hEx0.trans hR); have q1 := HP2.out _ (hEx0.trans hR); obtain ⟨q1, q2⟩ := q1; have qa := (hA0.ext hR).cell T; rw [lim_at T hT] at qa
              simp [go_sem, BigFrame.eval_const, BigFrame.eval_global, BigFrame.eval_func, ↓IntWalk.iteOmega, ev e21, dl, hlm, dg, dg2, dg3, q0, q1, q2, qa]
              with_reducible rfl
            apply Build.call 23 Ext.refl (by rfl) (by rfl) rfl
            case h =>
              intro ax wx hE hR hF
              have e18 : ax.eval (.tmp 18) = _ := hF 3 (det 18 _) (by decide) (mem4 (.head _))
              have e22 : ax.eval (.tmp 22) = _ := hF 7 (det 22 _) (by decide) (.head _)
              simp [go_sem, BigFrame.eval_const, BigFrame.eval_global, BigFrame.eval_func, ↓IntWalk.iteOmega, ev e18, ev e22, dl, hlm, dg, dg2, dg3]
              with_reducible exact ⟨rfl, rfl⟩
            case hc => intro wx hR; with_reducible exact HCA.out wx
            apply Build.det 24 Ext.refl (by rfl) (by rfl) rfl
            case h =>   -- 9: t24 := Op.unOp UnOp.not 4 (tmp 23)
              intro ax wx hE hR hF
              have e23 : ax.eval (.tmp 23) = _ := hF 8 (det 23 _) (by decide) (.head _)
              simp [go_sem, BigFrame.eval_const, BigFrame.eval_global, BigFrame.eval_func, ↓IntWalk.iteOmega, ev e23, dl, hlm, dg, dg2, dg3]
              with_reducible rfl
            apply Build.det 25 Ext.refl (by rfl) (by rfl) rfl
            case h =>   -- 10: t25 := Op.move (tmp 24)
              intro ax wx hE hR hF
              have e24 : ax.eval (.tmp 24) = _ := hF 9 (det 24 _) (by decide) (.head _)
              simp [go_sem, BigFrame.eval_const, BigFrame.eval_global, BigFrame.eval_func, ↓IntWalk.iteOmega, ev e24, dl, hlm, dg, dg2, dg3]
              with_reducible rfl
            apply Build.detg 26 Ext.refl (by rfl) (by rfl) rfl rfl
            case h =>   -- 11: t26 := Op.move (tmp 1)
              intro ax wx hE hR hF
              have e1 : ax.eval (.tmp 1) = .slice (some ⟨b2, o2, none⟩) len cap2 := hE.eval 1 (by rfl) rfl
              have e25 : ax.eval (.tmp 25) = _ := hF 10 (det 25 _) (by decide) (.head _)
              refine ⟨e25, ?_⟩
              simp [go_sem, BigFrame.eval_const, BigFrame.eval_global, BigFrame.eval_func, ↓IntWalk.iteOmega, ev e1, ev e25, dl, hlm, dg, dg2, dg3]
              with_reducible rfl
            apply Build.detg 27 Ext.refl (by rfl) (by rfl) rfl rfl
            case h =>   -- 12: t27 := Op.move (tmp 7)
              intro ax wx hE hR hF
              have e7 : ax.eval (.tmp 7) = .int .i64 (j : Int) := hE.eval 7 (by rfl) rfl
              have e25 : ax.eval (.tmp 25) = _ := hF 10 (det 25 _) (by decide) (.tail _ (.head _))
              refine ⟨e25, ?_⟩
              simp [go_sem, BigFrame.eval_const, BigFrame.eval_global, BigFrame.eval_func, ↓IntWalk.iteOmega, ev e7, ev e25, dl, hlm, dg, dg2, dg3]
              with_reducible rfl
            apply Build.detg 28 Ext.refl (by rfl) (by rfl) rfl rfl
            case h =>   -- 13: t28 := Op.indexAddr 42 (tmp 26) (tmp 27)
              intro ax wx hE hR hF
              have e25 : ax.eval (.tmp 25) = _ := hF 10 (det 25 _) (by decide) (.tail _ (.tail _ (.head _)))
              have e26 : ax.eval (.tmp 26) = _ := hF 11 (det 26 _) (by decide) (.tail _ (.head _))
              have e27 : ax.eval (.tmp 27) = _ := hF 12 (det 27 _) (by decide) (.head _)
              refine ⟨e25, ?_⟩
              simp [go_sem, BigFrame.eval_const, BigFrame.eval_global, BigFrame.eval_func, ↓IntWalk.iteOmega, ev e25, ev e26, ev e27, dl, hlm, dg, dg2, dg3]
              with_reducible rfl
            apply Build.detg 29 Ext.refl (by rfl) (by rfl) rfl rfl
            case h =>   -- 14: t29 := Op.fieldAddr 23 (tmp 28) 1
              intro ax wx hE hR hF
              have e25 : ax.eval (.tmp 25) = _ := hF 10 (det 25 _) (by decide) (.tail _ (.tail _ (.tail _ (.head _))))
              have e28 : ax.eval (.tmp 28) = _ := hF 13 (det 28 _) (by decide) (.head _)
              refine ⟨e25, ?_⟩
              simp [go_sem, BigFrame.eval_const, BigFrame.eval_global, BigFrame.eval_func, ↓IntWalk.iteOmega, ev e25, ev e28, dl, hlm, dg, dg2, dg3]
              with_reducible rfl
            apply Build.detg 30 Ext.refl (by rfl) (by rfl) rfl rfl
            case h =>   -- 15: t30 := Op.load 3 (tmp 29)
              intro ax wx hE hR hF
              have e25 : ax.eval (.tmp 25) = _ := hF 10 (det 25 _) (by decide) (mem4 (.head _))
              have e29 : ax.eval (.tmp 29) = _ := hF 14 (det 29 _) (by decide) (.head _)
              have q0 := HP1.out _ (hEx0.trans hR); have q1 := HP2.out _ (hEx0.trans hR); obtain ⟨q1, q2⟩ := q1; have qa := (hA0.ext hR).cell T; rw [lim_at T hT] at qa
              refine ⟨e25, ?_⟩
              simp [go_sem, BigFrame.eval_const, BigFrame.eval_global, BigFrame.eval_func, ↓IntWalk.iteOmega, ev e25, ev e29, dl, hlm, dg, dg2, dg3, q0, q1, q2, qa]
              with_reducible rfl
            apply Build.detg 31 Ext.refl (by rfl) (by rfl) rfl rfl
            case h =>   -- 16: t31 := Op.move (tmp 1)
              intro ax wx hE hR hF
              have e1 : ax.eval (.tmp 1) = .slice (some ⟨b2, o2, none⟩) len cap2 := hE.eval 1 (by rfl) rfl
              have e25 : ax.eval (.tmp 25) = _ := hF 10 (det 25 _) (by decide) (mem4 (.tail _ (.head _)))
              refine ⟨e25, ?_⟩
              simp [go_sem, BigFrame.eval_const, BigFrame.eval_global, BigFrame.eval_func, ↓IntWalk.iteOmega, ev e1, ev e25, dl, hlm, dg, dg2, dg3]
              with_reducible rfl
            apply Build.detg 32 Ext.refl (by rfl) (by rfl) rfl rfl
            case h =>   -- 17: t32 := Op.move (tmp 7)
              intro ax wx hE hR hF
              have e7 : ax.eval (.tmp 7) = .int .i64 (j : Int) := hE.eval 7 (by rfl) rfl
              have e25 : ax.eval (.tmp 25) = _ := hF 10 (det 25 _) (by decide) (mem4 (.tail _ (.tail _ (.head _))))
              refine ⟨e25, ?_⟩
              simp [go_sem, BigFrame.eval_const, BigFrame.eval_global, BigFrame.eval_func, ↓IntWalk.iteOmega, ev e7, ev e25, dl, hlm, dg, dg2, dg3]
              with_reducible rfl
            apply Build.detg 33 Ext.refl (by rfl) (by rfl) rfl rfl
            case h =>   -- 18: t33 := Op.indexAddr 42 (tmp 31) (tmp 32)
              intro ax wx hE hR hF
              have e25 : ax.eval (.tmp 25) = _ := hF 10 (det 25 _) (by decide) (mem4 (.tail _ (.tail _ (.tail _ (.head _)))))
              have e31 : ax.eval (.tmp 31) = _ := hF 16 (det 31 _) (by decide) (.tail _ (.head _))
              have e32 : ax.eval (.tmp 32) = _ := hF 17 (det 32 _) (by decide) (.head _)
              refine ⟨e25, ?_⟩
              simp [go_sem, BigFrame.eval_const, BigFrame.eval_global, BigFrame.eval_func, ↓IntWalk.iteOmega, ev e25, ev e31, ev e32, dl, hlm, dg, dg2, dg3]
              with_reducible rfl
            apply Build.detg 34 Ext.refl (by rfl) (by rfl) rfl rfl
            case h =>   -- 19: t34 := Op.fieldAddr 23 (tmp 33) 0
              intro ax wx hE hR hF
              have e25 : ax.eval (.tmp 25) = _ := hF 10 (det 25 _) (by decide) (mem4 (mem4 (.head _)))
              have e33 : ax.eval (.tmp 33) = _ := hF 18 (det 33 _) (by decide) (.head _)
              refine ⟨e25, ?_⟩
              simp [go_sem, BigFrame.eval_const, BigFrame.eval_global, BigFrame.eval_func, ↓IntWalk.iteOmega, ev e25, ev e33, dl, hlm, dg, dg2, dg3]
              with_reducible rfl
            apply Build.detg 35 Ext.refl (by rfl) (by rfl) rfl rfl
            case h =>   -- 20: t35 := Op.load 3 (tmp 34)
              intro ax wx hE hR hF
              have e25 : ax.eval (.tmp 25) = _ := hF 10 (det 25 _) (by decide) (mem4 (mem4 (.tail _ (.head _))))
              have e34 : ax.eval (.tmp 34) = _ := hF 19 (det 34 _) (by decide) (.head _)
              have q0 := HP1.out _ (hEx0.trans hR); have q1 := HP2.out _ (hEx0.trans hR); obtain ⟨q1, q2⟩ := q1; have qa := (hA0.ext hR).cell T; rw [lim_at T hT] at qa
              refine ⟨e25, ?_⟩
              simp [go_sem, BigFrame.eval_const, BigFrame.eval_global, BigFrame.eval_func, ↓IntWalk.iteOmega, ev e25, ev e34, dl, hlm, dg, dg2, dg3, q0, q1, q2, qa]
              with_reducible rfl
            apply Build.detg 36 Ext.refl (by rfl) (by rfl) rfl rfl
            case h =>   -- 21: t36 := Op.indexAddr 30 (tmp 5) (tmp 35)
              intro ax wx hE hR hF
              have e5 : ax.eval (.tmp 5) = .pointer (some ⟨w.heap.size, 0, none⟩) := hE.eval 5 (by rfl) rfl
              have e25 : ax.eval (.tmp 25) = _ := hF 10 (det 25 _) (by decide) (mem4 (mem4 (.tail _ (.tail _ (.head _)))))
              have e35 : ax.eval (.tmp 35) = _ := hF 20 (det 35 _) (by decide) (.head _)
              refine ⟨e25, ?_⟩
              simp [go_sem, BigFrame.eval_const, BigFrame.eval_global, BigFrame.eval_func, ↓IntWalk.iteOmega, ev e5, ev e25, ev e35, dl, hlm, dg, dg2, dg3]
              with_reducible rfl
            apply Build.detg 37 Ext.refl (by rfl) (by rfl) rfl rfl
            case h =>   -- 22: t37 := Op.load 3 (tmp 36)
              intro ax wx hE hR hF
              have e25 : ax.eval (.tmp 25) = _ := hF 10 (det 25 _) (by decide) (mem4 (mem4 (.tail _ (.tail _ (.tail _ (.head _))))))
              have e36 : ax.eval (.tmp 36) = _ := hF 21 (det 36 _) (by decide) (.head _)
              have q0 := HP1.out _ (hEx0.trans hR); have q1 := HP2.out _ (hEx0.trans hR); obtain ⟨q1, q2⟩ := q1; have qa := (hA0.ext hR).cell T; rw [lim_at T hT] at qa
              refine ⟨e25, ?_⟩
              simp [go_sem, BigFrame.eval_const, BigFrame.eval_global, BigFrame.eval_func, ↓IntWalk.iteOmega, ev e25, ev e36, dl, hlm, dg, dg2, dg3, q0, q1, q2, qa]
              with_reducible rfl
            apply Build.detg 38 Ext.refl (by rfl) (by rfl) rfl rfl
            case h =>   -- 23: t38 := Op.binOp BinOp.geq 3 (tmp 30) (tmp 37) 3
              intro ax wx hE hR hF
              have e25 : ax.eval (.tmp 25) = _ := hF 10 (det 25 _) (by decide) (mem4 (mem4 (mem4 (.head _))))
              have e30 : ax.eval (.tmp 30) = _ := hF 15 (det 30 _) (by decide) (mem4 (.tail _ (.tail _ (.tail _ (.head _)))))
              have e37 : ax.eval (.tmp 37) = _ := hF 22 (det 37 _) (by decide) (.head _)
              refine ⟨e25, ?_⟩
              simp [go_sem, BigFrame.eval_const, BigFrame.eval_global, BigFrame.eval_func, ↓IntWalk.iteOmega, ev e25, ev e30, ev e37, dl, hlm, dg, dg2, dg3]
              with_reducible rfl
            apply Build.det 39 Ext.refl (by rfl) (by rfl) rfl
            case h =>   -- 24: t39 := Op.pick (tmp 25) (const (Value.bool true)) (tmp 38)
              intro ax wx hE hR hF
              have e25 : ax.eval (.tmp 25) = _ := hF 10 (det 25 _) (by decide) (mem4 (mem4 (mem4 (.tail _ (.head _)))))
              have e38 : ax.eval (.tmp 38) = _ := hF 23 (det 38 _) (by decide) (.head _)
              simp [go_sem, BigFrame.eval_const, BigFrame.eval_global, BigFrame.eval_func, ↓IntWalk.iteOmega, ev e25, ev e38, dl, hlm, dg, dg2, dg3]
              with_reducible rfl
            apply Build.det 40 Ext.refl (by rfl) (by rfl) rfl
            case h =>   -- 25: t40 := Op.move (tmp 39)
              intro ax wx hE hR hF
              have e39 : ax.eval (.tmp 39) = _ := hF 24 (det 39 _) (by decide) (.head _)
              simp [go_sem, BigFrame.eval_const, BigFrame.eval_global, BigFrame.eval_func, ↓IntWalk.iteOmega, ev e39, dl, hlm, dg, dg2, dg3]
              with_reducible rfl
            apply Build.detg 41 Ext.refl (by rfl) (by rfl) rfl rfl
            case h =>   -- 26: t41 := Op.move (tmp 7)
              intro ax wx hE hR hF
              have e7 : ax.eval (.tmp 7) = .int .i64 (j : Int) := hE.eval 7 (by rfl) rfl
              have e40 : ax.eval (.tmp 40) = _ := hF 25 (det 40 _) (by decide) (.head _)
              refine ⟨e40, ?_⟩
              simp [go_sem, BigFrame.eval_const, BigFrame.eval_global, BigFrame.eval_func, ↓IntWalk.iteOmega, ev e7, ev e40, dl, hlm, dg, dg2, dg3]
              with_reducible rfl
            apply Build.detg 42 Ext.refl (by rfl) (by rfl) rfl rfl
            case h =>   -- 27: t42 := Op.binOp BinOp.gtr 3 (tmp 41) (const (Value.int IntKind.i64 0)) 3
              intro ax wx hE hR hF
              have e40 : ax.eval (.tmp 40) = _ := hF 25 (det 40 _) (by decide) (.tail _ (.head _))
              have e41 : ax.eval (.tmp 41) = _ := hF 26 (det 41 _) (by decide) (.head _)
              refine ⟨e40, ?_⟩
              simp [go_sem, BigFrame.eval_const, BigFrame.eval_global, BigFrame.eval_func, ↓IntWalk.iteOmega, ev e40, ev e41, dl, hlm, dg, dg2, dg3]
              with_reducible rfl
            apply Build.detg 43 Ext.refl (by rfl) (by rfl) rfl rfl
            case h =>   -- 28: t43 := Op.move (tmp 42)
              intro ax wx hE hR hF
              have e40 : ax.eval (.tmp 40) = _ := hF 25 (det 40 _) (by decide) (.tail _ (.tail _ (.head _)))
              have e42 : ax.eval (.tmp 42) = _ := hF 27 (det 42 _) (by decide) (.head _)
              refine ⟨e40, ?_⟩
              simp [go_sem, BigFrame.eval_const, BigFrame.eval_global, BigFrame.eval_func, ↓IntWalk.iteOmega, ev e40, ev e42, dl, hlm, dg, dg2, dg3]
              with_reducible rfl
            refine Build.skip 44 (by rfl) (by rfl) rfl rfl ?_ ?_
            · intro ax wx hE hR hF
              have e43 : ax.eval (.tmp 43) = _ := hF 28 (det 43 _) (by decide) (.head _)
              exact e43
            refine Build.skip 45 (by rfl) (by rfl) rfl rfl ?_ ?_
            · intro ax wx hE hR hF
              have e43 : ax.eval (.tmp 43) = _ := hF 28 (det 43 _) (by decide) (.tail _ (.head _))
              exact e43
            refine Build.skip 46 (by rfl) (by rfl) rfl rfl ?_ ?_
            · intro ax wx hE hR hF
              have e43 : ax.eval (.tmp 43) = _ := hF 28 (det 43 _) (by decide) (.tail _ (.tail _ (.head _)))
              exact e43
            refine Build.skip 47 (by rfl) (by rfl) rfl rfl ?_ ?_
            · intro ax wx hE hR hF
              have e43 : ax.eval (.tmp 43) = _ := hF 28 (det 43 _) (by decide) (.tail _ (.tail _ (.tail _ (.head _))))
              exact e43
            refine Build.skip 48 (by rfl) (by rfl) rfl rfl ?_ ?_
            · intro ax wx hE hR hF
              have e43 : ax.eval (.tmp 43) = _ := hF 28 (det 43 _) (by decide) (mem4 (.head _))
              exact e43
            refine Build.skip 49 (by rfl) (by rfl) rfl rfl ?_ ?_
            · intro ax wx hE hR hF
              have e43 : ax.eval (.tmp 43) = _ := hF 28 (det 43 _) (by decide) (mem4 (.tail _ (.head _)))
              exact e43
            refine Build.skip 50 (by rfl) (by rfl) rfl rfl ?_ ?_
            · intro ax wx hE hR hF
              have e43 : ax.eval (.tmp 43) = _ := hF 28 (det 43 _) (by decide) (mem4 (.tail _ (.tail _ (.head _))))
              exact e43
            refine Build.skip 51 (by rfl) (by rfl) rfl rfl ?_ ?_
            · intro ax wx hE hR hF
              have e43 : ax.eval (.tmp 43) = _ := hF 28 (det 43 _) (by decide) (mem4 (.tail _ (.tail _ (.tail _ (.head _)))))
              exact e43
            refine Build.skip 52 (by rfl) (by rfl) rfl rfl ?_ ?_
            · intro ax wx hE hR hF
              have e43 : ax.eval (.tmp 43) = _ := hF 28 (det 43 _) (by decide) (mem4 (mem4 (.head _)))
              exact e43
            refine Build.skip 53 (by rfl) (by rfl) rfl rfl ?_ ?_
            · intro ax wx hE hR hF
              have e43 : ax.eval (.tmp 43) = _ := hF 28 (det 43 _) (by decide) (mem4 (mem4 (.tail _ (.head _))))
              exact e43
            apply Build.detg 54 Ext.refl (by rfl) (by rfl) rfl rfl
            case h =>   -- 39: t54 := Op.pick (tmp 43) (tmp 53) (const (Value.bool false))
              intro ax wx hE hR hF
              have e40 : ax.eval (.tmp 40) = _ := hF 25 (det 40 _) (by decide) (mem4 (mem4 (mem4 (.tail _ (.head _)))))
              have e43 : ax.eval (.tmp 43) = _ := hF 28 (det 43 _) (by decide) (mem4 (mem4 (.tail _ (.tail _ (.head _)))))
              have e53 : ax.eval (.tmp 53) = _ := hF 38 (det 53 _) (by decide) (.head _)
              refine ⟨e40, ?_⟩
              simp [go_sem, BigFrame.eval_const, BigFrame.eval_global, BigFrame.eval_func, ↓IntWalk.iteOmega, ev e40, ev e43, ev e53, dl, hlm, dg, dg2, dg3]
              with_reducible rfl
            apply Build.det 55 Ext.refl (by rfl) (by rfl) rfl
            case h =>   -- 40: t55 := Op.pick (tmp 40) (const (Value.bool true)) (tmp 54)
              intro ax wx hE hR hF
              have e40 : ax.eval (.tmp 40) = _ := hF 25 (det 40 _) (by decide) (mem4 (mem4 (mem4 (.tail _ (.tail _ (.head _))))))
              have e54 : ax.eval (.tmp 54) = _ := hF 39 (det 54 _) (by decide) (.head _)
              simp [go_sem, BigFrame.eval_const, BigFrame.eval_global, BigFrame.eval_func, ↓IntWalk.iteOmega, ev e40, ev e54, dl, hlm, dg, dg2, dg3]
              with_reducible rfl
            apply Build.stop
            refine ⟨by kernel_rfl, .inl ⟨rfl, ?_⟩⟩
            intro ax w2 hE R2 hF
            have e15 : ax.eval (.tmp 15) = _ := hF 0 (det 15 _) (mem16 (mem16 (mem4 (mem4 (.head _)))))
            have e16 : ax.eval (.tmp 16) = _ := hF 1 (det 16 _) (mem16 (mem16 (mem4 (.tail _ (.tail _ (.tail _ (.head _)))))))
            have e17 : ax.eval (.tmp 17) = _ := hF 2 (det 17 _) (mem16 (mem16 (mem4 (.tail _ (.tail _ (.head _))))))
            have e18 : ax.eval (.tmp 18) = _ := hF 3 (det 18 _) (mem16 (mem16 (mem4 (.tail _ (.head _)))))
            have e19 : ax.eval (.tmp 19) = _ := hF 4 (det 19 _) (mem16 (mem16 (mem4 (.head _))))
            have e20 : ax.eval (.tmp 20) = _ := hF 5 (det 20 _) (mem16 (mem16 (.tail _ (.tail _ (.tail _ (.head _))))))
            have e21 : ax.eval (.tmp 21) = _ := hF 6 (det 21 _) (mem16 (mem16 (.tail _ (.tail _ (.head _)))))
            have e22 : ax.eval (.tmp 22) = _ := hF 7 (det 22 _) (mem16 (mem16 (.tail _ (.head _))))
            have e23 : ax.eval (.tmp 23) = _ := hF 8 (det 23 _) (mem16 (mem16 (.head _)))
            have e24 : ax.eval (.tmp 24) = _ := hF 9 (det 24 _) (mem16 (mem4 (mem4 (mem4 (.tail _ (.tail _ (.tail _ (.head _))))))))
            have e25 : ax.eval (.tmp 25) = _ := hF 10 (det 25 _) (mem16 (mem4 (mem4 (mem4 (.tail _ (.tail _ (.head _)))))))
            have e26 : ax.eval (.tmp 26) = _ := hF 11 (det 26 _) (mem16 (mem4 (mem4 (mem4 (.tail _ (.head _))))))
            have e27 : ax.eval (.tmp 27) = _ := hF 12 (det 27 _) (mem16 (mem4 (mem4 (mem4 (.head _)))))
            have e28 : ax.eval (.tmp 28) = _ := hF 13 (det 28 _) (mem16 (mem4 (mem4 (.tail _ (.tail _ (.tail _ (.head _)))))))
            have e29 : ax.eval (.tmp 29) = _ := hF 14 (det 29 _) (mem16 (mem4 (mem4 (.tail _ (.tail _ (.head _))))))
            have e30 : ax.eval (.tmp 30) = _ := hF 15 (det 30 _) (mem16 (mem4 (mem4 (.tail _ (.head _)))))
            have e31 : ax.eval (.tmp 31) = _ := hF 16 (det 31 _) (mem16 (mem4 (mem4 (.head _))))
            have e32 : ax.eval (.tmp 32) = _ := hF 17 (det 32 _) (mem16 (mem4 (.tail _ (.tail _ (.tail _ (.head _))))))
            have e33 : ax.eval (.tmp 33) = _ := hF 18 (det 33 _) (mem16 (mem4 (.tail _ (.tail _ (.head _)))))
            have e34 : ax.eval (.tmp 34) = _ := hF 19 (det 34 _) (mem16 (mem4 (.tail _ (.head _))))
            have e35 : ax.eval (.tmp 35) = _ := hF 20 (det 35 _) (mem16 (mem4 (.head _)))
            have e36 : ax.eval (.tmp 36) = _ := hF 21 (det 36 _) (mem16 (.tail _ (.tail _ (.tail _ (.head _)))))
            have e37 : ax.eval (.tmp 37) = _ := hF 22 (det 37 _) (mem16 (.tail _ (.tail _ (.head _))))
            have e38 : ax.eval (.tmp 38) = _ := hF 23 (det 38 _) (mem16 (.tail _ (.head _)))
            have e39 : ax.eval (.tmp 39) = _ := hF 24 (det 39 _) (mem16 (.head _))
            have e40 : ax.eval (.tmp 40) = _ := hF 25 (det 40 _) (mem4 (mem4 (mem4 (.tail _ (.tail _ (.tail _ (.head _)))))))
            have e41 : ax.eval (.tmp 41) = _ := hF 26 (det 41 _) (mem4 (mem4 (mem4 (.tail _ (.tail _ (.head _))))))
            have e42 : ax.eval (.tmp 42) = _ := hF 27 (det 42 _) (mem4 (mem4 (mem4 (.tail _ (.head _)))))
            have e43 : ax.eval (.tmp 43) = _ := hF 28 (det 43 _) (mem4 (mem4 (mem4 (.head _))))
            have e44 : ax.eval (.tmp 44) = _ := hF 29 (det 44 _) (mem4 (mem4 (.tail _ (.tail _ (.tail _ (.head _))))))
            have e45 : ax.eval (.tmp 45) = _ := hF 30 (det 45 _) (mem4 (mem4 (.tail _ (.tail _ (.head _)))))
            have e46 : ax.eval (.tmp 46) = _ := hF 31 (det 46 _) (mem4 (mem4 (.tail _ (.head _))))
            have e47 : ax.eval (.tmp 47) = _ := hF 32 (det 47 _) (mem4 (mem4 (.head _)))
            have e48 : ax.eval (.tmp 48) = _ := hF 33 (det 48 _) (mem4 (.tail _ (.tail _ (.tail _ (.head _)))))
            have e49 : ax.eval (.tmp 49) = _ := hF 34 (det 49 _) (mem4 (.tail _ (.tail _ (.head _))))
            have e50 : ax.eval (.tmp 50) = _ := hF 35 (det 50 _) (mem4 (.tail _ (.head _)))
            have e51 : ax.eval (.tmp 51) = _ := hF 36 (det 51 _) (mem4 (.head _))
            have e52 : ax.eval (.tmp 52) = _ := hF 37 (det 52 _) (.tail _ (.tail _ (.tail _ (.head _))))
            have e53 : ax.eval (.tmp 53) = _ := hF 38 (det 53 _) (.tail _ (.tail _ (.head _)))
            have e54 : ax.eval (.tmp 54) = _ := hF 39 (det 54 _) (.tail _ (.head _))
            have e55 : ax.eval (.tmp 55) = _ := hF 40 (det 55 _) (.head _)
            rw [AllEq.frame (D := [15, 16, 17, 18, 19, 20, 21, 22, 23, 24, 25, 26, 27, 28, 29, 30, 31, 32, 33, 34, 35, 36, 37, 38, 39, 40, 41, 42, 43, 44, 45, 46, 47, 48, 49, 50, 51, 52, 53, 54, 55]) (AllEq.cons e15 (AllEq.cons e16 (AllEq.cons e17 (AllEq.cons e18 (AllEq.cons e19 (AllEq.cons e20 (AllEq.cons e21 (AllEq.cons e22 (AllEq.cons e23 (AllEq.cons e24 (AllEq.cons e25 (AllEq.cons e26 (AllEq.cons e27 (AllEq.cons e28 (AllEq.cons e29 (AllEq.cons e30 (AllEq.cons e31 (AllEq.cons e32 (AllEq.cons e33 (AllEq.cons e34 (AllEq.cons e35 (AllEq.cons e36 (AllEq.cons e37 (AllEq.cons e38 (AllEq.cons e39 (AllEq.cons e40 (AllEq.cons e41 (AllEq.cons e42 (AllEq.cons e43 (AllEq.cons e44 (AllEq.cons e45 (AllEq.cons e46 (AllEq.cons e47 (AllEq.cons e48 (AllEq.cons e49 (AllEq.cons e50 (AllEq.cons e51 (AllEq.cons e52 (AllEq.cons e53 (AllEq.cons e54 (AllEq.cons e55 (AllEq.nil)))))))))))))))))))))))))))))))))))))))))) hE rfl]
            clear hF hE e15 e16 e17 e18 e19 e20 e21 e22 e23 e24 e25 e26 e27 e28 e29 e30 e31 e32 e33 e34 e35 e36 e37 e38 e39 e40 e41 e42 e43 e44 e45 e46 e47 e48 e49 e50 e51 e52 e53 e54 e55
            simp only [List.foldl_cons, List.foldl_nil, Act.put, List.setIfInBounds_toArray, List.set_cons_succ, List.set_cons_zero]
            have hEx2 := hEx0.trans R2
            have hA2 := hA0.ext R2
            go_upto_region 7 with fail
            clear R2
            go_loopw [8] (fun k wi => ∃ m : Nat, k = .int .i64 m ∧ m ≤ j ∧ Ext w wi ∧ Blk wi w.heap.size 30 #[.int .i64 s0, .int .i64 s1] ∧ Hid (∀ i, i < m → ¬ (tAt L i = (T : Int) ∧ sAt L i = s))) (fun k _ => j - (intOf k).toNat)
            case atStart => exact ⟨0, rfl, by omega, hEx2, hA2, fun i hi => absurd hi (by omega)⟩
            case round =>
              obtain ⟨m, rfl, hm1, hExi, hAi, HI⟩ := hrel
              by_cases hmj : m < j
              · have hmx : m < L.length := by omega
                have HPM0 := fun (W : World) (h : Ext w W) => hrs.ps_at h hmx
                obtain ⟨tm, htm⟩ : ∃ tt, tAt L m = tt := ⟨_, rfl⟩
                obtain ⟨sm, hsm⟩ : ∃ tt, sAt L m = tt := ⟨_, rfl⟩
                rw [htm, hsm] at HPM0
                have HPM := Lib.hid (fun (W : World) (h : Ext w W) => (by obtain ⟨_, _, he, h1, h2⟩ := HPM0 W h; cases he; exact ⟨h1, h2⟩ : W.cell? ⟨b2, o2 + m * 2, none⟩ = some (.int .i64 tm) ∧ W.cell? ⟨b2, o2 + m * 2 + 1, none⟩ = some (.int .i64 sm)))
                have Htm := Lib.hid htm
                have Hsm := Lib.hid hsm
                clear HPM0 htm hsm hEx2 hA2
                go_upto_region 9 with fail
                by_cases het : tm = (T : Int)
                · by_cases hes : sm = s
                  · have HBAD : ¬ okP L s0 s1 j := fun h => by
                      have h1 := (HOKE.out h).2.2.1
                      rw [seenB_yes L j m (T : Int) s hmj hmx (Htm.out.trans het) (Hsm.out.trans hes)] at h1
                      cases h1
                    refine wp_typed (R := Ext) (w0 := wr) [[], [], [0, 1], [0, 1, 2], [], [], [4, 5], [4, 5, 6], [0, 1, 2, 3, 4, 5, 6, 7]] [61, 62, 63, 64, 65, 66, 67, 68, 69] Ext.refl (fun _ _ _ => Ext.trans) (Ext.drew _) (by kernel_rfl) ?_
                    apply Build.det 61 Ext.refl (by rfl) (by rfl) rfl
                    case h =>   -- 0: t61 := Op.move (tmp 1)
                      intro ax wx hE hR hF
                      have e1 : ax.eval (.tmp 1) = .slice (some ⟨b2, o2, none⟩) len cap2 := hE.eval 1 (by rfl) rfl
                      simp [go_sem, BigFrame.eval_const, BigFrame.eval_global, BigFrame.eval_func, ↓IntWalk.iteOmega, ev e1, het, hes]
                      with_reducible rfl
                    apply Build.det 62 Ext.refl (by rfl) (by rfl) rfl
                    case h =>   -- 1: t62 := Op.move (tmp 8)
                      intro ax wx hE hR hF
                      have e8 : ax.eval (.tmp 8) = .int .i64 (m : Int) := hE.eval 8 (by rfl) rfl
                      simp [go_sem, BigFrame.eval_const, BigFrame.eval_global, BigFrame.eval_func, ↓IntWalk.iteOmega, ev e8, het, hes]
                      with_reducible rfl
                    apply Build.det 63 Ext.refl (by rfl) (by rfl) rfl
                    case h =>   -- 2: t63 := Op.indexAddr 42 (tmp 61) (tmp 62)
                      intro ax wx hE hR hF
                      have e61 : ax.eval (.tmp 61) = _ := hF 0 (det 61 _) (by decide) (.tail _ (.head _))
                      have e62 : ax.eval (.tmp 62) = _ := hF 1 (det 62 _) (by decide) (.head _)
                      simp [go_sem, BigFrame.eval_const, BigFrame.eval_global, BigFrame.eval_func, ↓IntWalk.iteOmega, ev e61, ev e62, het, hes]
                      with_reducible rfl
                    apply Build.det 64 Ext.refl (by rfl) (by rfl) rfl
                    case h =>   -- 3: t64 := Op.load 23 (tmp 63)
                      intro ax wx hE hR hF
                      have e63 : ax.eval (.tmp 63) = _ := hF 2 (det 63 _) (by decide) (.head _)
                      have p0 := HP2.out _ (hExi.trans hR); have p1 := HPM.out _ (hExi.trans hR); obtain ⟨p0, p2⟩ := p0; obtain ⟨p1, p3⟩ := p1
                      simp [go_sem, BigFrame.eval_const, BigFrame.eval_global, BigFrame.eval_func, ↓IntWalk.iteOmega, ev e63, het, hes, p0, p1, p2, p3]
                      with_reducible rfl
                    apply Build.det 65 Ext.refl (by rfl) (by rfl) rfl
                    case h =>   -- 4: t65 := Op.move (tmp 1)
                      intro ax wx hE hR hF
                      have e1 : ax.eval (.tmp 1) = .slice (some ⟨b2, o2, none⟩) len cap2 := hE.eval 1 (by rfl) rfl
                      simp [go_sem, BigFrame.eval_const, BigFrame.eval_global, BigFrame.eval_func, ↓IntWalk.iteOmega, ev e1, het, hes]
                      with_reducible rfl
                    apply Build.det 66 Ext.refl (by rfl) (by rfl) rfl
                    case h =>   -- 5: t66 := Op.move (tmp 7)
                      intro ax wx hE hR hF
                      have e7 : ax.eval (.tmp 7) = .int .i64 (j : Int) := hE.eval 7 (by rfl) rfl
                      simp [go_sem, BigFrame.eval_const, BigFrame.eval_global, BigFrame.eval_func, ↓IntWalk.iteOmega, ev e7, het, hes]
                      with_reducible rfl
                    apply Build.det 67 Ext.refl (by rfl) (by rfl) rfl
                    case h =>   -- 6: t67 := Op.indexAddr 42 (tmp 65) (tmp 66)
                      intro ax wx hE hR hF
                      have e65 : ax.eval (.tmp 65) = _ := hF 4 (det 65 _) (by decide) (.tail _ (.head _))
                      have e66 : ax.eval (.tmp 66) = _ := hF 5 (det 66 _) (by decide) (.head _)
                      simp [go_sem, BigFrame.eval_const, BigFrame.eval_global, BigFrame.eval_func, ↓IntWalk.iteOmega, ev e65, ev e66, het, hes]
                      with_reducible rfl
                    apply Build.det 68 Ext.refl (by rfl) (by rfl) rfl
                    case h =>   -- 7: t68 := Op.load 23 (tmp 67)
                      intro ax wx hE hR hF
                      have e67 : ax.eval (.tmp 67) = _ := hF 6 (det 67 _) (by decide) (.head _)
                      have p0 := HP2.out _ (hExi.trans hR); have p1 := HPM.out _ (hExi.trans hR); obtain ⟨p0, p2⟩ := p0; obtain ⟨p1, p3⟩ := p1
                      simp [go_sem, BigFrame.eval_const, BigFrame.eval_global, BigFrame.eval_func, ↓IntWalk.iteOmega, ev e67, het, hes, p0, p1, p2, p3]
                      with_reducible rfl
                    apply Build.det 69 Ext.refl (by rfl) (by rfl) rfl
                    case h =>   -- 8: t69 := Op.binOp BinOp.eql 23 (tmp 64) (tmp 68) 23
                      intro ax wx hE hR hF
                      have e64 : ax.eval (.tmp 64) = _ := hF 3 (det 64 _) (by decide) (.tail _ (.tail _ (.tail _ (.tail _ (.head _)))))
                      have e68 : ax.eval (.tmp 68) = _ := hF 7 (det 68 _) (by decide) (.head _)
                      simp [go_sem, BigFrame.eval_const, BigFrame.eval_global, BigFrame.eval_func, ↓IntWalk.iteOmega, ev e64, ev e68, het, hes]
                      with_reducible rfl
                    apply Build.stop
                    refine ⟨by kernel_rfl, .inl ⟨rfl, ?_⟩⟩
                    intro ax w3 hE R3 hF
                    have e61 : ax.eval (.tmp 61) = _ := hF 0 (det 61 _) (.tail _ (.tail _ (.tail _ (.tail _ (.tail _ (.tail _ (.tail _ (.tail _ (.head _)))))))))
                    have e62 : ax.eval (.tmp 62) = _ := hF 1 (det 62 _) (.tail _ (.tail _ (.tail _ (.tail _ (.tail _ (.tail _ (.tail _ (.head _))))))))
                    have e63 : ax.eval (.tmp 63) = _ := hF 2 (det 63 _) (.tail _ (.tail _ (.tail _ (.tail _ (.tail _ (.tail _ (.head _)))))))
                    have e64 : ax.eval (.tmp 64) = _ := hF 3 (det 64 _) (.tail _ (.tail _ (.tail _ (.tail _ (.tail _ (.head _))))))
                    have e65 : ax.eval (.tmp 65) = _ := hF 4 (det 65 _) (.tail _ (.tail _ (.tail _ (.tail _ (.head _)))))
                    have e66 : ax.eval (.tmp 66) = _ := hF 5 (det 66 _) (.tail _ (.tail _ (.tail _ (.head _))))
                    have e67 : ax.eval (.tmp 67) = _ := hF 6 (det 67 _) (.tail _ (.tail _ (.head _)))
                    have e68 : ax.eval (.tmp 68) = _ := hF 7 (det 68 _) (.tail _ (.head _))
                    have e69 : ax.eval (.tmp 69) = _ := hF 8 (det 69 _) (.head _)
                    rw [AllEq.frame (D := [61, 62, 63, 64, 65, 66, 67, 68, 69]) (AllEq.cons e61 (AllEq.cons e62 (AllEq.cons e63 (AllEq.cons e64 (AllEq.cons e65 (AllEq.cons e66 (AllEq.cons e67 (AllEq.cons e68 (AllEq.cons e69 (AllEq.nil)))))))))) hE rfl]
                    clear hF hE e61 e62 e63 e64 e65 e66 e67 e68 e69
                    simp only [List.foldl_cons, List.foldl_nil, Act.put, List.setIfInBounds_toArray, List.set_cons_succ, List.set_cons_zero]
                    have hEx := hExi.trans R3
                    have hG : Hid (GB = false) := HB.out HBAD
                    go_wp2_with fail
                    go_ret
                    exact ⟨by rw [hG.out] <;> rfl, hEx⟩
                  · skip
                    refine wp_typed (R := Ext) (w0 := wr) [[], [], [0, 1], [0, 1, 2], [], [], [4, 5], [4, 5, 6], [0, 1, 2, 3, 4, 5, 6, 7]] [61, 62, 63, 64, 65, 66, 67, 68, 69] Ext.refl (fun _ _ _ => Ext.trans) (Ext.drew _) (by kernel_rfl) ?_
                    apply Build.det 61 Ext.refl (by rfl) (by rfl) rfl
                    case h =>   -- 0: t61 := Op.move (tmp 1)
                      intro ax wx hE hR hF
                      have e1 : ax.eval (.tmp 1) = .slice (some ⟨b2, o2, none⟩) len cap2 := hE.eval 1 (by rfl) rfl
                      simp [go_sem, BigFrame.eval_const, BigFrame.eval_global, BigFrame.eval_func, ↓IntWalk.iteOmega, ev e1, het, hes]
                      with_reducible rfl
                    apply Build.det 62 Ext.refl (by rfl) (by rfl) rfl
                    case h =>   -- 1: t62 := Op.move (tmp 8)
                      intro ax wx hE hR hF
                      have e8 : ax.eval (.tmp 8) = .int .i64 (m : Int) := hE.eval 8 (by rfl) rfl
                      simp [go_sem, BigFrame.eval_const, BigFrame.eval_global, BigFrame.eval_func, ↓IntWalk.iteOmega, ev e8, het, hes]
                      with_reducible rfl
                    apply Build.det 63 Ext.refl (by rfl) (by rfl) rfl
                    case h =>   -- 2: t63 := Op.indexAddr 42 (tmp 61) (tmp 62)
                      intro ax wx hE hR hF
                      have e61 : ax.eval (.tmp 61) = _ := hF 0 (det 61 _) (by decide) (.tail _ (.head _))
                      have e62 : ax.eval (.tmp 62) = _ := hF 1 (det 62 _) (by decide) (.head _)
                      simp [go_sem, BigFrame.eval_const, BigFrame.eval_global, BigFrame.eval_func, ↓IntWalk.iteOmega, ev e61, ev e62, het, hes]
                      with_reducible rfl
                    apply Build.det 64 Ext.refl (by rfl) (by rfl) rfl
                    case h =>   -- 3: t64 := Op.load 23 (tmp 63)
                      intro ax wx hE hR hF
                      have e63 : ax.eval (.tmp 63) = _ := hF 2 (det 63 _) (by decide) (.head _)
                      have p0 := HP2.out _ (hExi.trans hR); have p1 := HPM.out _ (hExi.trans hR); obtain ⟨p0, p2⟩ := p0; obtain ⟨p1, p3⟩ := p1
                      simp [go_sem, BigFrame.eval_const, BigFrame.eval_global, BigFrame.eval_func, ↓IntWalk.iteOmega, ev e63, het, hes, p0, p1, p2, p3]
                      with_reducible rfl
                    apply Build.det 65 Ext.refl (by rfl) (by rfl) rfl
                    case h =>   -- 4: t65 := Op.move (tmp 1)
                      intro ax wx hE hR hF
                      have e1 : ax.eval (.tmp 1) = .slice (some ⟨b2, o2, none⟩) len cap2 := hE.eval 1 (by rfl) rfl
                      simp [go_sem, BigFrame.eval_const, BigFrame.eval_global, BigFrame.eval_func, ↓IntWalk.iteOmega, ev e1, het, hes]
                      with_reducible rfl
                    apply Build.det 66 Ext.refl (by rfl) (by rfl) rfl
                    case h =>   -- 5: t66 := Op.move (tmp 7)
                      intro ax wx hE hR hF
                      have e7 : ax.eval (.tmp 7) = .int .i64 (j : Int) := hE.eval 7 (by rfl) rfl
                      simp [go_sem, BigFrame.eval_const, BigFrame.eval_global, BigFrame.eval_func, ↓IntWalk.iteOmega, ev e7, het, hes]
                      with_reducible rfl
                    apply Build.det 67 Ext.refl (by rfl) (by rfl) rfl
                    case h =>   -- 6: t67 := Op.indexAddr 42 (tmp 65) (tmp 66)
                      intro ax wx hE hR hF
                      have e65 : ax.eval (.tmp 65) = _ := hF 4 (det 65 _) (by decide) (.tail _ (.head _))
                      have e66 : ax.eval (.tmp 66) = _ := hF 5 (det 66 _) (by decide) (.head _)
                      simp [go_sem, BigFrame.eval_const, BigFrame.eval_global, BigFrame.eval_func, ↓IntWalk.iteOmega, ev e65, ev e66, het, hes]
                      with_reducible rfl
                    apply Build.det 68 Ext.refl (by rfl) (by rfl) rfl
                    case h =>   -- 7: t68 := Op.load 23 (tmp 67)
                      intro ax wx hE hR hF
                      have e67 : ax.eval (.tmp 67) = _ := hF 6 (det 67 _) (by decide) (.head _)
                      have p0 := HP2.out _ (hExi.trans hR); have p1 := HPM.out _ (hExi.trans hR); obtain ⟨p0, p2⟩ := p0; obtain ⟨p1, p3⟩ := p1
                      simp [go_sem, BigFrame.eval_const, BigFrame.eval_global, BigFrame.eval_func, ↓IntWalk.iteOmega, ev e67, het, hes, p0, p1, p2, p3]
                      with_reducible rfl
                    apply Build.det 69 Ext.refl (by rfl) (by rfl) rfl
                    case h =>   -- 8: t69 := Op.binOp BinOp.eql 23 (tmp 64) (tmp 68) 23
                      intro ax wx hE hR hF
                      have e64 : ax.eval (.tmp 64) = _ := hF 3 (det 64 _) (by decide) (.tail _ (.tail _ (.tail _ (.tail _ (.head _)))))
                      have e68 : ax.eval (.tmp 68) = _ := hF 7 (det 68 _) (by decide) (.head _)
                      simp [go_sem, BigFrame.eval_const, BigFrame.eval_global, BigFrame.eval_func, ↓IntWalk.iteOmega, ev e64, ev e68, het, hes]
                      with_reducible rfl
                    apply Build.stop
                    refine ⟨by kernel_rfl, .inl ⟨rfl, ?_⟩⟩
                    intro ax w3 hE R3 hF
                    have e61 : ax.eval (.tmp 61) = _ := hF 0 (det 61 _) (.tail _ (.tail _ (.tail _ (.tail _ (.tail _ (.tail _ (.tail _ (.tail _ (.head _)))))))))
                    have e62 : ax.eval (.tmp 62) = _ := hF 1 (det 62 _) (.tail _ (.tail _ (.tail _ (.tail _ (.tail _ (.tail _ (.tail _ (.head _))))))))
                    have e63 : ax.eval (.tmp 63) = _ := hF 2 (det 63 _) (.tail _ (.tail _ (.tail _ (.tail _ (.tail _ (.tail _ (.head _)))))))
                    have e64 : ax.eval (.tmp 64) = _ := hF 3 (det 64 _) (.tail _ (.tail _ (.tail _ (.tail _ (.tail _ (.head _))))))
                    have e65 : ax.eval (.tmp 65) = _ := hF 4 (det 65 _) (.tail _ (.tail _ (.tail _ (.tail _ (.head _)))))
                    have e66 : ax.eval (.tmp 66) = _ := hF 5 (det 66 _) (.tail _ (.tail _ (.tail _ (.head _))))
                    have e67 : ax.eval (.tmp 67) = _ := hF 6 (det 67 _) (.tail _ (.tail _ (.head _)))
                    have e68 : ax.eval (.tmp 68) = _ := hF 7 (det 68 _) (.tail _ (.head _))
                    have e69 : ax.eval (.tmp 69) = _ := hF 8 (det 69 _) (.head _)
                    rw [AllEq.frame (D := [61, 62, 63, 64, 65, 66, 67, 68, 69]) (AllEq.cons e61 (AllEq.cons e62 (AllEq.cons e63 (AllEq.cons e64 (AllEq.cons e65 (AllEq.cons e66 (AllEq.cons e67 (AllEq.cons e68 (AllEq.cons e69 (AllEq.nil)))))))))) hE rfl]
                    clear hF hE e61 e62 e63 e64 e65 e66 e67 e68 e69
                    simp only [List.foldl_cons, List.foldl_nil, Act.put, List.setIfInBounds_toArray, List.set_cons_succ, List.set_cons_zero]
                    go_wp2_with fail
                    go_roundw
                    case rel => exact ⟨m + 1, by go_num, by omega, hExi.trans R3, hAi.ext R3, fun i hi => by
                      by_cases e : i = m
                      · subst e; exact fun h => hes (Hsm.out.symm.trans h.2)
                      · exact HI.out i (by omega)⟩
                    case measure => simp [intOf]; omega
                · skip
                  refine wp_typed (R := Ext) (w0 := wr) [[], [], [0, 1], [0, 1, 2], [], [], [4, 5], [4, 5, 6], [0, 1, 2, 3, 4, 5, 6, 7]] [61, 62, 63, 64, 65, 66, 67, 68, 69] Ext.refl (fun _ _ _ => Ext.trans) (Ext.drew _) (by kernel_rfl) ?_
                  apply Build.det 61 Ext.refl (by rfl) (by rfl) rfl
                  case h =>   -- 0: t61 := Op.move (tmp 1)
                    intro ax wx hE hR hF
                    have e1 : ax.eval (.tmp 1) = .slice (some ⟨b2, o2, none⟩) len cap2 := hE.eval 1 (by rfl) rfl
                    simp [go_sem, BigFrame.eval_const, BigFrame.eval_global, BigFrame.eval_func, ↓IntWalk.iteOmega, ev e1, het]
                    with_reducible rfl
                  apply Build.det 62 Ext.refl (by rfl) (by rfl) rfl
                  case h =>   -- 1: t62 := Op.move (tmp 8)
                    intro ax wx hE hR hF
                    have e8 : ax.eval (.tmp 8) = .int .i64 (m : Int) := hE.eval 8 (by rfl) rfl
                    simp [go_sem, BigFrame.eval_const, BigFrame.eval_global, BigFrame.eval_func, ↓IntWalk.iteOmega, ev e8, het]
                    with_reducible rfl
                  apply Build.det 63 Ext.refl (by rfl) (by rfl) rfl
                  case h =>   -- 2: t63 := Op.indexAddr 42 (tmp 61) (tmp 62)
                    intro ax wx hE hR hF
                    have e61 : ax.eval (.tmp 61) = _ := hF 0 (det 61 _) (by decide) (.tail _ (.head _))
                    have e62 : ax.eval (.tmp 62) = _ := hF 1 (det 62 _) (by decide) (.head _)
                    simp [go_sem, BigFrame.eval_const, BigFrame.eval_global, BigFrame.eval_func, ↓IntWalk.iteOmega, ev e61, ev e62, het]
                    with_reducible rfl
                  apply Build.det 64 Ext.refl (by rfl) (by rfl) rfl
                  case h =>   -- 3: t64 := Op.load 23 (tmp 63)
                    intro ax wx hE hR hF
                    have e63 : ax.eval (.tmp 63) = _ := hF 2 (det 63 _) (by decide) (.head _)
                    have p0 := HP2.out _ (hExi.trans hR); have p1 := HPM.out _ (hExi.trans hR); obtain ⟨p0, p2⟩ := p0; obtain ⟨p1, p3⟩ := p1
                    simp [go_sem, BigFrame.eval_const, BigFrame.eval_global, BigFrame.eval_func, ↓IntWalk.iteOmega, ev e63, het, p0, p1, p2, p3]
                    with_reducible rfl
                  apply Build.det 65 Ext.refl (by rfl) (by rfl) rfl
                  case h =>   -- 4: t65 := Op.move (tmp 1)
                    intro ax wx hE hR hF
                    have e1 : ax.eval (.tmp 1) = .slice (some ⟨b2, o2, none⟩) len cap2 := hE.eval 1 (by rfl) rfl
                    simp [go_sem, BigFrame.eval_const, BigFrame.eval_global, BigFrame.eval_func, ↓IntWalk.iteOmega, ev e1, het]
                    with_reducible rfl
                  apply Build.det 66 Ext.refl (by rfl) (by rfl) rfl
                  case h =>   -- 5: t66 := Op.move (tmp 7)
                    intro ax wx hE hR hF
                    have e7 : ax.eval (.tmp 7) = .int .i64 (j : Int) := hE.eval 7 (by rfl) rfl
                    simp [go_sem, BigFrame.eval_const, BigFrame.eval_global, BigFrame.eval_func, ↓IntWalk.iteOmega, ev e7, het]
                    with_reducible rfl
                  apply Build.det 67 Ext.refl (by rfl) (by rfl) rfl
                  case h =>   -- 6: t67 := Op.indexAddr 42 (tmp 65) (tmp 66)
                    intro ax wx hE hR hF
                    have e65 : ax.eval (.tmp 65) = _ := hF 4 (det 65 _) (by decide) (.tail _ (.head _))
                    have e66 : ax.eval (.tmp 66) = _ := hF 5 (det 66 _) (by decide) (.head _)
                    simp [go_sem, BigFrame.eval_const, BigFrame.eval_global, BigFrame.eval_func, ↓IntWalk.iteOmega, ev e65, ev e66, het]
                    with_reducible rfl
                  apply Build.det 68 Ext.refl (by rfl) (by rfl) rfl
                  case h =>   -- 7: t68 := Op.load 23 (tmp 67)
                    intro ax wx hE hR hF
                    have e67 : ax.eval (.tmp 67) = _ := hF 6 (det 67 _) (by decide) (.head _)
                    have p0 := HP2.out _ (hExi.trans hR); have p1 := HPM.out _ (hExi.trans hR); obtain ⟨p0, p2⟩ := p0; obtain ⟨p1, p3⟩ := p1
                    simp [go_sem, BigFrame.eval_const, BigFrame.eval_global, BigFrame.eval_func, ↓IntWalk.iteOmega, ev e67, het, p0, p1, p2, p3]
                    with_reducible rfl
                  apply Build.det 69 Ext.refl (by rfl) (by rfl) rfl
                  case h =>   -- 8: t69 := Op.binOp BinOp.eql 23 (tmp 64) (tmp 68) 23
                    intro ax wx hE hR hF
                    have e64 : ax.eval (.tmp 64) = _ := hF 3 (det 64 _) (by decide) (.tail _ (.tail _ (.tail _ (.tail _ (.head _)))))
                    have e68 : ax.eval (.tmp 68) = _ := hF 7 (det 68 _) (by decide) (.head _)
                    simp [go_sem, BigFrame.eval_const, BigFrame.eval_global, BigFrame.eval_func, ↓IntWalk.iteOmega, ev e64, ev e68, het]
                    with_reducible rfl
                  apply Build.stop
                  refine ⟨by kernel_rfl, .inl ⟨rfl, ?_⟩⟩
                  intro ax w3 hE R3 hF
                  have e61 : ax.eval (.tmp 61) = _ := hF 0 (det 61 _) (.tail _ (.tail _ (.tail _ (.tail _ (.tail _ (.tail _ (.tail _ (.tail _ (.head _)))))))))
                  have e62 : ax.eval (.tmp 62) = _ := hF 1 (det 62 _) (.tail _ (.tail _ (.tail _ (.tail _ (.tail _ (.tail _ (.tail _ (.head _))))))))
                  have e63 : ax.eval (.tmp 63) = _ := hF 2 (det 63 _) (.tail _ (.tail _ (.tail _ (.tail _ (.tail _ (.tail _ (.head _)))))))
                  have e64 : ax.eval (.tmp 64) = _ := hF 3 (det 64 _) (.tail _ (.tail _ (.tail _ (.tail _ (.tail _ (.head _))))))
                  have e65 : ax.eval (.tmp 65) = _ := hF 4 (det 65 _) (.tail _ (.tail _ (.tail _ (.tail _ (.head _)))))
                  have e66 : ax.eval (.tmp 66) = _ := hF 5 (det 66 _) (.tail _ (.tail _ (.tail _ (.head _))))
                  have e67 : ax.eval (.tmp 67) = _ := hF 6 (det 67 _) (.tail _ (.tail _ (.head _)))
                  have e68 : ax.eval (.tmp 68) = _ := hF 7 (det 68 _) (.tail _ (.head _))
                  have e69 : ax.eval (.tmp 69) = _ := hF 8 (det 69 _) (.head _)
                  rw [AllEq.frame (D := [61, 62, 63, 64, 65, 66, 67, 68, 69]) (AllEq.cons e61 (AllEq.cons e62 (AllEq.cons e63 (AllEq.cons e64 (AllEq.cons e65 (AllEq.cons e66 (AllEq.cons e67 (AllEq.cons e68 (AllEq.cons e69 (AllEq.nil)))))))))) hE rfl]
                  clear hF hE e61 e62 e63 e64 e65 e66 e67 e68 e69
                  simp only [List.foldl_cons, List.foldl_nil, Act.put, List.setIfInBounds_toArray, List.set_cons_succ, List.set_cons_zero]
                  go_wp2_with fail
                  go_roundw
                  case rel => exact ⟨m + 1, by go_num, by omega, hExi.trans R3, hAi.ext R3, fun i hi => by
                    by_cases e : i = m
                    · subst e; exact fun h => het (Htm.out.symm.trans h.1)
                    · exact HI.out i (by omega)⟩
                  case measure => simp [intOf]; omega
              · obtain rfl : m = j := by omega
                have hsn := seenB_no L m (T : Int) s HI.out
                go_wp2_with fail
                go_roundw
                case rel => exact ⟨m + 1, by go_num, by omega, hExi, hAi, HS.out (HOKW.out hsn)⟩
                case measure => simp [intOf]; omega
          · obtain ⟨p, hp⟩ : ∃ p, j = p + 1 := ⟨j - 1, by omega⟩
            have hpx : p < L.length := by omega
            have hsub : IntKind.i64.wrap ((j : Int) - 1) = (p : Int) := by rw [IntWalk.i64_in _ (by omega)]; omega
            have hsub2 : IntKind.i64.wrap (p : Int) = (p : Int) := IntWalk.i64_in _ (by omega)
            have hsub3 : (j : Int) - 1 = (p : Int) := by omega
            have dg : decide ((0 : Int) < (j : Int)) = true := by rw [decide_eq_true_iff]; omega
            have dg2 : decide (0 < j) = true := by rw [decide_eq_true_iff]; omega
            have dg3 : 0 < j := by omega
            have HPP0 := fun (W : World) (h : Ext w W) => hrc.pc_at h hpx
            obtain ⟨c0, hc0⟩ : ∃ c, cAt L p = c := ⟨_, rfl⟩
            rw [hc0] at HPP0
            have HPP := Lib.hid (fun (W : World) (h : Ext w W) => (by obtain ⟨_, _, he, h1⟩ := HPP0 W h; cases he; exact h1 : W.cell? ⟨b1, o1 + p, none⟩ = some (.int .i64 c0)))
            have HC0 : Hid (cAt L (j - 1) = c0) := by rw [hp]; exact hc0
            have Hp := Lib.hid hp
            have hpl : p < len := by omega
            by_cases hle : c0 < c
            · have dc : decide (c ≤ c0) = false := by rw [decide_eq_false_iff_not]; omega
              have HOKW := Lib.hid (fun h => HOKI.out Hg.out (by rw [HLM.out]; exact Hl.out) h (.inr (by rw [HC0.out]; exact hle)))
              clear hle HPP0 hc0 hp hj0
              refine wp_typed (R := Ext) (w0 := wr) [[], [], [0, 1], [0, 1, 2], [], [], [4, 5], [4, 5, 6], [0, 1, 2, 3, 4, 5, 6, 7], [0, 1, 2, 3, 4, 5, 6, 7, 8], [0, 1, 2, 3, 4, 5, 6, 7, 8, 9], [0, 1, 2, 3, 4, 5, 6, 7, 8, 9, 10], [0, 1, 2, 3, 4, 5, 6, 7, 8, 9, 10], [0, 1, 2, 3, 4, 5, 6, 7, 8, 9, 10, 11, 12], [0, 1, 2, 3, 4, 5, 6, 7, 8, 9, 10, 11, 12, 13], [0, 1, 2, 3, 4, 5, 6, 7, 8, 9, 10, 11, 12, 13, 14], [0, 1, 2, 3, 4, 5, 6, 7, 8, 9, 10], [0, 1, 2, 3, 4, 5, 6, 7, 8, 9, 10], [0, 1, 2, 3, 4, 5, 6, 7, 8, 9, 10, 16, 17], [0, 1, 2, 3, 4, 5, 6, 7, 8, 9, 10, 16, 17, 18], [0, 1, 2, 3, 4, 5, 6, 7, 8, 9, 10, 16, 17, 18, 19], [0, 1, 2, 3, 4, 5, 6, 7, 8, 9, 10, 16, 17, 18, 19, 20], [0, 1, 2, 3, 4, 5, 6, 7, 8, 9, 10, 16, 17, 18, 19, 20, 21], [0, 1, 2, 3, 4, 5, 6, 7, 8, 9, 10, 11, 12, 13, 14, 15, 16, 17, 18, 19, 20, 21, 22], [0, 1, 2, 3, 4, 5, 6, 7, 8, 9, 10, 11, 12, 13, 14, 15, 16, 17, 18, 19, 20, 21, 22, 23], [0, 1, 2, 3, 4, 5, 6, 7, 8, 9, 10, 11, 12, 13, 14, 15, 16, 17, 18, 19, 20, 21, 22, 23, 24], [0, 1, 2, 3, 4, 5, 6, 7, 8, 9, 10, 11, 12, 13, 14, 15, 16, 17, 18, 19, 20, 21, 22, 23, 24, 25], [0, 1, 2, 3, 4, 5, 6, 7, 8, 9, 10, 11, 12, 13, 14, 15, 16, 17, 18, 19, 20, 21, 22, 23, 24, 25, 26], [0, 1, 2, 3, 4, 5, 6, 7, 8, 9, 10, 11, 12, 13, 14, 15, 16, 17, 18, 19, 20, 21, 22, 23, 24, 25, 26, 27], [0, 1, 2, 3, 4, 5, 6, 7, 8, 9, 10, 11, 12, 13, 14, 15, 16, 17, 18, 19, 20, 21, 22, 23, 24, 25, 26, 27, 28], [0, 1, 2, 3, 4, 5, 6, 7, 8, 9, 10, 11, 12, 13, 14, 15, 16, 17, 18, 19, 20, 21, 22, 23, 24, 25, 26, 27, 28], [0, 1, 2, 3, 4, 5, 6, 7, 8, 9, 10, 11, 12, 13, 14, 15, 16, 17, 18, 19, 20, 21, 22, 23, 24, 25, 26, 27, 28, 30], [0, 1, 2, 3, 4, 5, 6, 7, 8, 9, 10, 11, 12, 13, 14, 15, 16, 17, 18, 19, 20, 21, 22, 23, 24, 25, 26, 27, 28, 29, 30, 31], [0, 1, 2, 3, 4, 5, 6, 7, 8, 9, 10, 11, 12, 13, 14, 15, 16, 17, 18, 19, 20, 21, 22, 23, 24, 25, 26, 27, 28, 29, 30, 31, 32], [0, 1, 2, 3, 4, 5, 6, 7, 8, 9, 10, 11, 12, 13, 14, 15, 16, 17, 18, 19, 20, 21, 22, 23, 24, 25, 26, 27, 28], [0, 1, 2, 3, 4, 5, 6, 7, 8, 9, 10, 11, 12, 13, 14, 15, 16, 17, 18, 19, 20, 21, 22, 23, 24, 25, 26, 27, 28], [0, 1, 2, 3, 4, 5, 6, 7, 8, 9, 10, 11, 12, 13, 14, 15, 16, 17, 18, 19, 20, 21, 22, 23, 24, 25, 26, 27, 28, 34, 35], [0, 1, 2, 3, 4, 5, 6, 7, 8, 9, 10, 11, 12, 13, 14, 15, 16, 17, 18, 19, 20, 21, 22, 23, 24, 25, 26, 27, 28, 34, 35, 36], [0, 1, 2, 3, 4, 5, 6, 7, 8, 9, 10, 11, 12, 13, 14, 15, 16, 17, 18, 19, 20, 21, 22, 23, 24, 25, 26, 27, 28, 29, 30, 31, 32, 33, 34, 35, 36, 37], [0, 1, 2, 3, 4, 5, 6, 7, 8, 9, 10, 11, 12, 13, 14, 15, 16, 17, 18, 19, 20, 21, 22, 23, 24, 25, 26, 27, 28, 29, 30, 31, 32, 33, 34, 35, 36, 37, 38], [0, 1, 2, 3, 4, 5, 6, 7, 8, 9, 10, 11, 12, 13, 14, 15, 16, 17, 18, 19, 20, 21, 22, 23, 24, 25, 26, 27, 28, 29, 30, 31, 32, 33, 34, 35, 36, 37, 38, 39]] [15, 16, 17, 18, 19, 20, 21, 22, 23, 24, 25, 26, 27, 28, 29, 30, 31, 32, 33, 34, 35, 36, 37, 38, 39, 40, 41, 42, 43, 44, 45, 46, 47, 48, 49, 50, 51, 52, 53, 54, 55] Ext.refl (fun _ _ _ => Ext.trans) (Ext.drew _) (by kernel_rfl) ?_
              apply Build.det 15 Ext.refl (by rfl) (by rfl) rfl
              case h =>   -- 0: t15 := Op.move (tmp 0)
                intro ax wx hE hR hF
                have e0 : ax.eval (.tmp 0) = .slice (some ⟨b1, o1, none⟩) len cap1 := hE.eval 0 (by rfl) rfl
                simp [go_sem, BigFrame.eval_const, BigFrame.eval_global, BigFrame.eval_func, ↓IntWalk.iteOmega, ev e0, dl, hlm, dg, dg2, dg3, hsub, hsub2, hsub3, dc]
                with_reducible rfl
              apply Build.det 16 Ext.refl (by rfl) (by rfl) rfl
              case h =>   -- 1: t16 := Op.move (tmp 7)
                intro ax wx hE hR hF
                have e7 : ax.eval (.tmp 7) = .int .i64 (j : Int) := hE.eval 7 (by rfl) rfl
                simp [go_sem, BigFrame.eval_const, BigFrame.eval_global, BigFrame.eval_func, ↓IntWalk.iteOmega, ev e7, dl, hlm, dg, dg2, dg3, hsub, hsub2, hsub3, dc]
                with_reducible rfl
              apply Build.det 17 Ext.refl (by rfl) (by rfl) rfl
              case h =>   -- 2: t17 := Op.indexAddr 41 (tmp 15) (tmp 16)
                intro ax wx hE hR hF
                have e15 : ax.eval (.tmp 15) = _ := hF 0 (det 15 _) (by decide) (.tail _ (.head _))
                have e16 : ax.eval (.tmp 16) = _ := hF 1 (det 16 _) (by decide) (.head _)
                simp [go_sem, BigFrame.eval_const, BigFrame.eval_global, BigFrame.eval_func, ↓IntWalk.iteOmega, ev e15, ev e16, dl, hlm, dg, dg2, dg3, hsub, hsub2, hsub3, dc]
                with_reducible rfl
              apply Build.det 18 Ext.refl (by rfl) (by rfl) rfl
              case h =>   -- 3: t18 := Op.load 3 (tmp 17)
                intro ax wx hE hR hF
                have e17 : ax.eval (.tmp 17) = _ := hF 2 (det 17 _) (by decide) (.head _)
                have q0 := HP1.out _ (hEx0.trans hR); have q1 := HP2.out _ (hEx0.trans hR); obtain ⟨q1, q2⟩ := q1; have qa := (hA0.ext hR).cell T; rw [lim_at T hT] at qa; have p0 := HPP.out _ (hEx0.trans hR)
                simp [go_sem, BigFrame.eval_const, BigFrame.eval_global, BigFrame.eval_func, ↓IntWalk.iteOmega, ev e17, dl, hlm, dg, dg2, dg3, hsub, hsub2, hsub3, dc, q0, q1, q2, qa, p0]
                with_reducible rfl
              apply Build.det 19 Ext.refl (by rfl) (by rfl) rfl
              case h =>   -- 4: t19 := Op.move (tmp 1)
                intro ax wx hE hR hF
                have e1 : ax.eval (.tmp 1) = .slice (some ⟨b2, o2, none⟩) len cap2 := hE.eval 1 (by rfl) rfl
                simp [go_sem, BigFrame.eval_const, BigFrame.eval_global, BigFrame.eval_func, ↓IntWalk.iteOmega, ev e1, dl, hlm, dg, dg2, dg3, hsub, hsub2, hsub3, dc]
                with_reducible rfl
              apply Build.det 20 Ext.refl (by rfl) (by rfl) rfl
              case h =>   -- 5: t20 := Op.move (tmp 7)
                intro ax wx hE hR hF
                have e7 : ax.eval (.tmp 7) = .int .i64 (j : Int) := hE.eval 7 (by rfl) rfl
                simp [go_sem, BigFrame.eval_const, BigFrame.eval_global, BigFrame.eval_func, ↓IntWalk.iteOmega, ev e7, dl, hlm, dg, dg2, dg3, hsub, hsub2, hsub3, dc]
                with_reducible rfl
              apply Build.det 21 Ext.refl (by rfl) (by rfl) rfl
              case h =>   -- 6: t21 := Op.indexAddr 42 (tmp 19) (tmp 20)
                intro ax wx hE hR hF
                have e19 : ax.eval (.tmp 19) = _ := hF 4 (det 19 _) (by decide) (.tail _ (.head _))
                have e20 : ax.eval (.tmp 20) = _ := hF 5 (det 20 _) (by decide) (.head _)
                simp [go_sem, BigFrame.eval_const, BigFrame.eval_global, BigFrame.eval_func, ↓IntWalk.iteOmega, ev e19, ev e20, dl, hlm, dg, dg2, dg3, hsub, hsub2, hsub3, dc]
                with_reducible rfl
              apply Build.det 22 Ext.refl (by rfl) (by rfl) rfl
              case h =>   -- 7: t22 := Op.load 23 (tmp 21)
                intro ax wx hE hR hF
                have e21 : ax.eval (.tmp 21) = _ := hF 6 (det 21 _) (by decide) (.head _)
                have q0 := HP1.out _ (hEx0.trans hR); have q1 := HP2.out _ (hEx0.trans hR); obtain ⟨q1, q2⟩ := q1; have qa := (hA0.ext hR).cell T; rw [lim_at T hT] at qa; have p0 := HPP.out _ (hEx0.trans hR)
                simp [go_sem, BigFrame.eval_const, BigFrame.eval_global, BigFrame.eval_func, ↓IntWalk.iteOmega, ev e21, dl, hlm, dg, dg2, dg3, hsub, hsub2, hsub3, dc, q0, q1, q2, qa, p0]
                with_reducible rfl
              apply Build.call 23 Ext.refl (by rfl) (by rfl) rfl
              case h =>
                intro ax wx hE hR hF
                have e18 : ax.eval (.tmp 18) = _ := hF 3 (det 18 _) (by decide) (mem4 (.head _))
                have e22 : ax.eval (.tmp 22) = _ := hF 7 (det 22 _) (by decide) (.head _)
                simp [go_sem, BigFrame.eval_const, BigFrame.eval_global, BigFrame.eval_func, ↓IntWalk.iteOmega, ev e18, ev e22, dl, hlm, dg, dg2, dg3, hsub, hsub2, hsub3, dc]
                with_reducible exact ⟨rfl, rfl⟩
              case hc => intro wx hR; with_reducible exact HCA.out wx
              apply Build.det 24 Ext.refl (by rfl) (by rfl) rfl
              case h =>   -- 9: t24 := Op.unOp UnOp.not 4 (tmp 23)
                intro ax wx hE hR hF
                have e23 : ax.eval (.tmp 23) = _ := hF 8 (det 23 _) (by decide) (.head _)
                simp [go_sem, BigFrame.eval_const, BigFrame.eval_global, BigFrame.eval_func, ↓IntWalk.iteOmega, ev e23, dl, hlm, dg, dg2, dg3, hsub, hsub2, hsub3, dc]
                with_reducible rfl
              apply Build.det 25 Ext.refl (by rfl) (by rfl) rfl
              case h =>   -- 10: t25 := Op.move (tmp 24)
                intro ax wx hE hR hF
                have e24 : ax.eval (.tmp 24) = _ := hF 9 (det 24 _) (by decide) (.head _)
                simp [go_sem, BigFrame.eval_const, BigFrame.eval_global, BigFrame.eval_func, ↓IntWalk.iteOmega, ev e24, dl, hlm, dg, dg2, dg3, hsub, hsub2, hsub3, dc]
                with_reducible rfl
              apply Build.detg 26 Ext.refl (by rfl) (by rfl) rfl rfl
              case h =>   -- 11: t26 := Op.move (tmp 1)
                intro ax wx hE hR hF
                have e1 : ax.eval (.tmp 1) = .slice (some ⟨b2, o2, none⟩) len cap2 := hE.eval 1 (by rfl) rfl
                have e25 : ax.eval (.tmp 25) = _ := hF 10 (det 25 _) (by decide) (.head _)
                refine ⟨e25, ?_⟩
                simp [go_sem, BigFrame.eval_const, BigFrame.eval_global, BigFrame.eval_func, ↓IntWalk.iteOmega, ev e1, ev e25, dl, hlm, dg, dg2, dg3, hsub, hsub2, hsub3, dc]
                with_reducible rfl
              apply Build.detg 27 Ext.refl (by rfl) (by rfl) rfl rfl
              case h =>   -- 12: t27 := Op.move (tmp 7)
                intro ax wx hE hR hF
                have e7 : ax.eval (.tmp 7) = .int .i64 (j : Int) := hE.eval 7 (by rfl) rfl
                have e25 : ax.eval (.tmp 25) = _ := hF 10 (det 25 _) (by decide) (.tail _ (.head _))
                refine ⟨e25, ?_⟩
                simp [go_sem, BigFrame.eval_const, BigFrame.eval_global, BigFrame.eval_func, ↓IntWalk.iteOmega, ev e7, ev e25, dl, hlm, dg, dg2, dg3, hsub, hsub2, hsub3, dc]
                with_reducible rfl
              apply Build.detg 28 Ext.refl (by rfl) (by rfl) rfl rfl
              case h =>   -- 13: t28 := Op.indexAddr 42 (tmp 26) (tmp 27)
                intro ax wx hE hR hF
                have e25 : ax.eval (.tmp 25) = _ := hF 10 (det 25 _) (by decide) (.tail _ (.tail _ (.head _)))
                have e26 : ax.eval (.tmp 26) = _ := hF 11 (det 26 _) (by decide) (.tail _ (.head _))
                have e27 : ax.eval (.tmp 27) = _ := hF 12 (det 27 _) (by decide) (.head _)
                refine ⟨e25, ?_⟩
                simp [go_sem, BigFrame.eval_const, BigFrame.eval_global, BigFrame.eval_func, ↓IntWalk.iteOmega, ev e25, ev e26, ev e27, dl, hlm, dg, dg2, dg3, hsub, hsub2, hsub3, dc]
                with_reducible rfl
              apply Build.detg 29 Ext.refl (by rfl) (by rfl) rfl rfl
              case h =>   -- 14: t29 := Op.fieldAddr 23 (tmp 28) 1
                intro ax wx hE hR hF
                have e25 : ax.eval (.tmp 25) = _ := hF 10 (det 25 _) (by decide) (.tail _ (.tail _ (.tail _ (.head _))))
                have e28 : ax.eval (.tmp 28) = _ := hF 13 (det 28 _) (by decide) (.head _)
                refine ⟨e25, ?_⟩
                simp [go_sem, BigFrame.eval_const, BigFrame.eval_global, BigFrame.eval_func, ↓IntWalk.iteOmega, ev e25, ev e28, dl, hlm, dg, dg2, dg3, hsub, hsub2, hsub3, dc]
                with_reducible rfl
              apply Build.detg 30 Ext.refl (by rfl) (by rfl) rfl rfl
              case h =>   -- 15: t30 := Op.load 3 (tmp 29)
                intro ax wx hE hR hF
                have e25 : ax.eval (.tmp 25) = _ := hF 10 (det 25 _) (by decide) (mem4 (.head _))
                have e29 : ax.eval (.tmp 29) = _ := hF 14 (det 29 _) (by decide) (.head _)
                have q0 := HP1.out _ (hEx0.trans hR); have q1 := HP2.out _ (hEx0.trans hR); obtain ⟨q1, q2⟩ := q1; have qa := (hA0.ext hR).cell T; rw [lim_at T hT] at qa; have p0 := HPP.out _ (hEx0.trans hR)
                refine ⟨e25, ?_⟩
                simp [go_sem, BigFrame.eval_const, BigFrame.eval_global, BigFrame.eval_func, ↓IntWalk.iteOmega, ev e25, ev e29, dl, hlm, dg, dg2, dg3, hsub, hsub2, hsub3, dc, q0, q1, q2, qa, p0]
                with_reducible rfl
              apply Build.detg 31 Ext.refl (by rfl) (by rfl) rfl rfl
              case h =>   -- 16: t31 := Op.move (tmp 1)
                intro ax wx hE hR hF
                have e1 : ax.eval (.tmp 1) = .slice (some ⟨b2, o2, none⟩) len cap2 := hE.eval 1 (by rfl) rfl
                have e25 : ax.eval (.tmp 25) = _ := hF 10 (det 25 _) (by decide) (mem4 (.tail _ (.head _)))
                refine ⟨e25, ?_⟩
                simp [go_sem, BigFrame.eval_const, BigFrame.eval_global, BigFrame.eval_func, ↓IntWalk.iteOmega, ev e1, ev e25, dl, hlm, dg, dg2, dg3, hsub, hsub2, hsub3, dc]
                with_reducible rfl
              apply Build.detg 32 Ext.refl (by rfl) (by rfl) rfl rfl
              case h =>   -- 17: t32 := Op.move (tmp 7)
                intro ax wx hE hR hF
                have e7 : ax.eval (.tmp 7) = .int .i64 (j : Int) := hE.eval 7 (by rfl) rfl
                have e25 : ax.eval (.tmp 25) = _ := hF 10 (det 25 _) (by decide) (mem4 (.tail _ (.tail _ (.head _))))
                refine ⟨e25, ?_⟩
                simp [go_sem, BigFrame.eval_const, BigFrame.eval_global, BigFrame.eval_func, ↓IntWalk.iteOmega, ev e7, ev e25, dl, hlm, dg, dg2, dg3, hsub, hsub2, hsub3, dc]
                with_reducible rfl
              apply Build.detg 33 Ext.refl (by rfl) (by rfl) rfl rfl
              case h =>   -- 18: t33 := Op.indexAddr 42 (tmp 31) (tmp 32)
                intro ax wx hE hR hF
                have e25 : ax.eval (.tmp 25) = _ := hF 10 (det 25 _) (by decide) (mem4 (.tail _ (.tail _ (.tail _ (.head _)))))
                have e31 : ax.eval (.tmp 31) = _ := hF 16 (det 31 _) (by decide) (.tail _ (.head _))
                have e32 : ax.eval (.tmp 32) = _ := hF 17 (det 32 _) (by decide) (.head _)
                refine ⟨e25, ?_⟩
                simp [go_sem, BigFrame.eval_const, BigFrame.eval_global, BigFrame.eval_func, ↓IntWalk.iteOmega, ev e25, ev e31, ev e32, dl, hlm, dg, dg2, dg3, hsub, hsub2, hsub3, dc]
                with_reducible rfl
              apply Build.detg 34 Ext.refl (by rfl) (by rfl) rfl rfl
              case h =>   -- 19: t34 := Op.fieldAddr 23 (tmp 33) 0
                intro ax wx hE hR hF
                have e25 : ax.eval (.tmp 25) = _ := hF 10 (det 25 _) (by decide) (mem4 (mem4 (.head _)))
                have e33 : ax.eval (.tmp 33) = _ := hF 18 (det 33 _) (by decide) (.head _)
                refine ⟨e25, ?_⟩
                simp [go_sem, BigFrame.eval_const, BigFrame.eval_global, BigFrame.eval_func, ↓IntWalk.iteOmega, ev e25, ev e33, dl, hlm, dg, dg2, dg3, hsub, hsub2, hsub3, dc]
                with_reducible rfl
              apply Build.detg 35 Ext.refl (by rfl) (by rfl) rfl rfl
              case h =>   -- 20: t35 := Op.load 3 (tmp 34)
                intro ax wx hE hR hF
                have e25 : ax.eval (.tmp 25) = _ := hF 10 (det 25 _) (by decide) (mem4 (mem4 (.tail _ (.head _))))
                have e34 : ax.eval (.tmp 34) = _ := hF 19 (det 34 _) (by decide) (.head _)
                have q0 := HP1.out _ (hEx0.trans hR); have q1 := HP2.out _ (hEx0.trans hR); obtain ⟨q1, q2⟩ := q1; have qa := (hA0.ext hR).cell T; rw [lim_at T hT] at qa; have p0 := HPP.out _ (hEx0.trans hR)
                refine ⟨e25, ?_⟩
                simp [go_sem, BigFrame.eval_const, BigFrame.eval_global, BigFrame.eval_func, ↓IntWalk.iteOmega, ev e25, ev e34, dl, hlm, dg, dg2, dg3, hsub, hsub2, hsub3, dc, q0, q1, q2, qa, p0]
                with_reducible rfl
              apply Build.detg 36 Ext.refl (by rfl) (by rfl) rfl rfl
              case h =>   -- 21: t36 := Op.indexAddr 30 (tmp 5) (tmp 35)
                intro ax wx hE hR hF
                have e5 : ax.eval (.tmp 5) = .pointer (some ⟨w.heap.size, 0, none⟩) := hE.eval 5 (by rfl) rfl
                have e25 : ax.eval (.tmp 25) = _ := hF 10 (det 25 _) (by decide) (mem4 (mem4 (.tail _ (.tail _ (.head _)))))
                have e35 : ax.eval (.tmp 35) = _ := hF 20 (det 35 _) (by decide) (.head _)
                refine ⟨e25, ?_⟩
                simp [go_sem, BigFrame.eval_const, BigFrame.eval_global, BigFrame.eval_func, ↓IntWalk.iteOmega, ev e5, ev e25, ev e35, dl, hlm, dg, dg2, dg3, hsub, hsub2, hsub3, dc]
                with_reducible rfl
              apply Build.detg 37 Ext.refl (by rfl) (by rfl) rfl rfl
              case h =>   -- 22: t37 := Op.load 3 (tmp 36)
                intro ax wx hE hR hF
                have e25 : ax.eval (.tmp 25) = _ := hF 10 (det 25 _) (by decide) (mem4 (mem4 (.tail _ (.tail _ (.tail _ (.head _))))))
                have e36 : ax.eval (.tmp 36) = _ := hF 21 (det 36 _) (by decide) (.head _)
                have q0 := HP1.out _ (hEx0.trans hR); have q1 := HP2.out _ (hEx0.trans hR); obtain ⟨q1, q2⟩ := q1; have qa := (hA0.ext hR).cell T; rw [lim_at T hT] at qa; have p0 := HPP.out _ (hEx0.trans hR)
                refine ⟨e25, ?_⟩
                simp [go_sem, BigFrame.eval_const, BigFrame.eval_global, BigFrame.eval_func, ↓IntWalk.iteOmega, ev e25, ev e36, dl, hlm, dg, dg2, dg3, hsub, hsub2, hsub3, dc, q0, q1, q2, qa, p0]
                with_reducible rfl
              apply Build.detg 38 Ext.refl (by rfl) (by rfl) rfl rfl
              case h =>   -- 23: t38 := Op.binOp BinOp.geq 3 (tmp 30) (tmp 37) 3
                intro ax wx hE hR hF
                have e25 : ax.eval (.tmp 25) = _ := hF 10 (det 25 _) (by decide) (mem4 (mem4 (mem4 (.head _))))
                have e30 : ax.eval (.tmp 30) = _ := hF 15 (det 30 _) (by decide) (mem4 (.tail _ (.tail _ (.tail _ (.head _)))))
                have e37 : ax.eval (.tmp 37) = _ := hF 22 (det 37 _) (by decide) (.head _)
                refine ⟨e25, ?_⟩
                simp [go_sem, BigFrame.eval_const, BigFrame.eval_global, BigFrame.eval_func, ↓IntWalk.iteOmega, ev e25, ev e30, ev e37, dl, hlm, dg, dg2, dg3, hsub, hsub2, hsub3, dc]
                with_reducible rfl
              apply Build.det 39 Ext.refl (by rfl) (by rfl) rfl
              case h =>   -- 24: t39 := Op.pick (tmp 25) (const (Value.bool true)) (tmp 38)
                intro ax wx hE hR hF
                have e25 : ax.eval (.tmp 25) = _ := hF 10 (det 25 _) (by decide) (mem4 (mem4 (mem4 (.tail _ (.head _)))))
                have e38 : ax.eval (.tmp 38) = _ := hF 23 (det 38 _) (by decide) (.head _)
                simp [go_sem, BigFrame.eval_const, BigFrame.eval_global, BigFrame.eval_func, ↓IntWalk.iteOmega, ev e25, ev e38, dl, hlm, dg, dg2, dg3, hsub, hsub2, hsub3, dc]
                with_reducible rfl
              apply Build.det 40 Ext.refl (by rfl) (by rfl) rfl
              case h =>   -- 25: t40 := Op.move (tmp 39)
                intro ax wx hE hR hF
                have e39 : ax.eval (.tmp 39) = _ := hF 24 (det 39 _) (by decide) (.head _)
                simp [go_sem, BigFrame.eval_const, BigFrame.eval_global, BigFrame.eval_func, ↓IntWalk.iteOmega, ev e39, dl, hlm, dg, dg2, dg3, hsub, hsub2, hsub3, dc]
                with_reducible rfl
              apply Build.detg 41 Ext.refl (by rfl) (by rfl) rfl rfl
              case h =>   -- 26: t41 := Op.move (tmp 7)
                intro ax wx hE hR hF
                have e7 : ax.eval (.tmp 7) = .int .i64 (j : Int) := hE.eval 7 (by rfl) rfl
                have e40 : ax.eval (.tmp 40) = _ := hF 25 (det 40 _) (by decide) (.head _)
                refine ⟨e40, ?_⟩
                simp [go_sem, BigFrame.eval_const, BigFrame.eval_global, BigFrame.eval_func, ↓IntWalk.iteOmega, ev e7, ev e40, dl, hlm, dg, dg2, dg3, hsub, hsub2, hsub3, dc]
                with_reducible rfl
              apply Build.detg 42 Ext.refl (by rfl) (by rfl) rfl rfl
              case h =>   -- 27: t42 := Op.binOp BinOp.gtr 3 (tmp 41) (const (Value.int IntKind.i64 0)) 3
                intro ax wx hE hR hF
                have e40 : ax.eval (.tmp 40) = _ := hF 25 (det 40 _) (by decide) (.tail _ (.head _))
                have e41 : ax.eval (.tmp 41) = _ := hF 26 (det 41 _) (by decide) (.head _)
                refine ⟨e40, ?_⟩
                simp [go_sem, BigFrame.eval_const, BigFrame.eval_global, BigFrame.eval_func, ↓IntWalk.iteOmega, ev e40, ev e41, dl, hlm, dg, dg2, dg3, hsub, hsub2, hsub3, dc]
                with_reducible rfl
              apply Build.detg 43 Ext.refl (by rfl) (by rfl) rfl rfl
              case h =>   -- 28: t43 := Op.move (tmp 42)
                intro ax wx hE hR hF
                have e40 : ax.eval (.tmp 40) = _ := hF 25 (det 40 _) (by decide) (.tail _ (.tail _ (.head _)))
                have e42 : ax.eval (.tmp 42) = _ := hF 27 (det 42 _) (by decide) (.head _)
                refine ⟨e40, ?_⟩
                simp [go_sem, BigFrame.eval_const, BigFrame.eval_global, BigFrame.eval_func, ↓IntWalk.iteOmega, ev e40, ev e42, dl, hlm, dg, dg2, dg3, hsub, hsub2, hsub3, dc]
                with_reducible rfl
              apply Build.detg 44 Ext.refl (by rfl) (by rfl) rfl rfl
              case h =>   -- 29: t44 := Op.move (tmp 0)
                intro ax wx hE hR hF
                have e0 : ax.eval (.tmp 0) = .slice (some ⟨b1, o1, none⟩) len cap1 := hE.eval 0 (by rfl) rfl
                have e43 : ax.eval (.tmp 43) = _ := hF 28 (det 43 _) (by decide) (.head _)
                refine ⟨e43, ?_⟩
                simp [go_sem, BigFrame.eval_const, BigFrame.eval_global, BigFrame.eval_func, ↓IntWalk.iteOmega, ev e0, ev e43, dl, hlm, dg, dg2, dg3, hsub, hsub2, hsub3, dc]
                with_reducible rfl
              apply Build.detg 45 Ext.refl (by rfl) (by rfl) rfl rfl
              case h =>   -- 30: t45 := Op.move (tmp 7)
                intro ax wx hE hR hF
                have e7 : ax.eval (.tmp 7) = .int .i64 (j : Int) := hE.eval 7 (by rfl) rfl
                have e43 : ax.eval (.tmp 43) = _ := hF 28 (det 43 _) (by decide) (.tail _ (.head _))
                refine ⟨e43, ?_⟩
                simp [go_sem, BigFrame.eval_const, BigFrame.eval_global, BigFrame.eval_func, ↓IntWalk.iteOmega, ev e7, ev e43, dl, hlm, dg, dg2, dg3, hsub, hsub2, hsub3, dc]
                with_reducible rfl
              apply Build.detg 46 Ext.refl (by rfl) (by rfl) rfl rfl
              case h =>   -- 31: t46 := Op.binOp BinOp.sub 3 (tmp 45) (const (Value.int IntKind.i64 1)) 3
                intro ax wx hE hR hF
                have e43 : ax.eval (.tmp 43) = _ := hF 28 (det 43 _) (by decide) (.tail _ (.tail _ (.head _)))
                have e45 : ax.eval (.tmp 45) = _ := hF 30 (det 45 _) (by decide) (.head _)
                refine ⟨e43, ?_⟩
                simp [go_sem, BigFrame.eval_const, BigFrame.eval_global, BigFrame.eval_func, ↓IntWalk.iteOmega, ev e43, ev e45, dl, hlm, dg, dg2, dg3, hsub, hsub2, hsub3, dc]
                with_reducible rfl
              apply Build.detg 47 Ext.refl (by rfl) (by rfl) rfl rfl
              case h =>   -- 32: t47 := Op.indexAddr 41 (tmp 44) (tmp 46)
                intro ax wx hE hR hF
                have e43 : ax.eval (.tmp 43) = _ := hF 28 (det 43 _) (by decide) (.tail _ (.tail _ (.tail _ (.head _))))
                have e44 : ax.eval (.tmp 44) = _ := hF 29 (det 44 _) (by decide) (.tail _ (.tail _ (.head _)))
                have e46 : ax.eval (.tmp 46) = _ := hF 31 (det 46 _) (by decide) (.head _)
                refine ⟨e43, ?_⟩
                simp [go_sem, BigFrame.eval_const, BigFrame.eval_global, BigFrame.eval_func, ↓IntWalk.iteOmega, ev e43, ev e44, ev e46, dl, hlm, dg, dg2, dg3, hsub, hsub2, hsub3, dc]
                with_reducible rfl
              apply Build.detg 48 Ext.refl (by rfl) (by rfl) rfl rfl
              case h =>   -- 33: t48 := Op.load 3 (tmp 47)
                intro ax wx hE hR hF
                have e43 : ax.eval (.tmp 43) = _ := hF 28 (det 43 _) (by decide) (mem4 (.head _))
                have e47 : ax.eval (.tmp 47) = _ := hF 32 (det 47 _) (by decide) (.head _)
                have q0 := HP1.out _ (hEx0.trans hR); have q1 := HP2.out _ (hEx0.trans hR); obtain ⟨q1, q2⟩ := q1; have qa := (hA0.ext hR).cell T; rw [lim_at T hT] at qa; have p0 := HPP.out _ (hEx0.trans hR)
                refine ⟨e43, ?_⟩
                simp [go_sem, BigFrame.eval_const, BigFrame.eval_global, BigFrame.eval_func, ↓IntWalk.iteOmega, ev e43, ev e47, dl, hlm, dg, dg2, dg3, hsub, hsub2, hsub3, dc, q0, q1, q2, qa, p0]
                with_reducible rfl
              apply Build.detg 49 Ext.refl (by rfl) (by rfl) rfl rfl
              case h =>   -- 34: t49 := Op.move (tmp 0)
                intro ax wx hE hR hF
                have e0 : ax.eval (.tmp 0) = .slice (some ⟨b1, o1, none⟩) len cap1 := hE.eval 0 (by rfl) rfl
                have e43 : ax.eval (.tmp 43) = _ := hF 28 (det 43 _) (by decide) (mem4 (.tail _ (.head _)))
                refine ⟨e43, ?_⟩
                simp [go_sem, BigFrame.eval_const, BigFrame.eval_global, BigFrame.eval_func, ↓IntWalk.iteOmega, ev e0, ev e43, dl, hlm, dg, dg2, dg3, hsub, hsub2, hsub3, dc]
                with_reducible rfl
              apply Build.detg 50 Ext.refl (by rfl) (by rfl) rfl rfl
              case h =>   -- 35: t50 := Op.move (tmp 7)
                intro ax wx hE hR hF
                have e7 : ax.eval (.tmp 7) = .int .i64 (j : Int) := hE.eval 7 (by rfl) rfl
                have e43 : ax.eval (.tmp 43) = _ := hF 28 (det 43 _) (by decide) (mem4 (.tail _ (.tail _ (.head _))))
                refine ⟨e43, ?_⟩
                simp [go_sem, BigFrame.eval_const, BigFrame.eval_global, BigFrame.eval_func, ↓IntWalk.iteOmega, ev e7, ev e43, dl, hlm, dg, dg2, dg3, hsub, hsub2, hsub3, dc]
                with_reducible rfl
              apply Build.detg 51 Ext.refl (by rfl) (by rfl) rfl rfl
              case h =>   -- 36: t51 := Op.indexAddr 41 (tmp 49) (tmp 50)
                intro ax wx hE hR hF
                have e43 : ax.eval (.tmp 43) = _ := hF 28 (det 43 _) (by decide) (mem4 (.tail _ (.tail _ (.tail _ (.head _)))))
                have e49 : ax.eval (.tmp 49) = _ := hF 34 (det 49 _) (by decide) (.tail _ (.head _))
                have e50 : ax.eval (.tmp 50) = _ := hF 35 (det 50 _) (by decide) (.head _)
                refine ⟨e43, ?_⟩
                simp [go_sem, BigFrame.eval_const, BigFrame.eval_global, BigFrame.eval_func, ↓IntWalk.iteOmega, ev e43, ev e49, ev e50, dl, hlm, dg, dg2, dg3, hsub, hsub2, hsub3, dc]
                with_reducible rfl
              apply Build.detg 52 Ext.refl (by rfl) (by rfl) rfl rfl
              case h =>   -- 37: t52 := Op.load 3 (tmp 51)
                intro ax wx hE hR hF
                have e43 : ax.eval (.tmp 43) = _ := hF 28 (det 43 _) (by decide) (mem4 (mem4 (.head _)))
                have e51 : ax.eval (.tmp 51) = _ := hF 36 (det 51 _) (by decide) (.head _)
                have q0 := HP1.out _ (hEx0.trans hR); have q1 := HP2.out _ (hEx0.trans hR); obtain ⟨q1, q2⟩ := q1; have qa := (hA0.ext hR).cell T; rw [lim_at T hT] at qa; have p0 := HPP.out _ (hEx0.trans hR)
                refine ⟨e43, ?_⟩
                simp [go_sem, BigFrame.eval_const, BigFrame.eval_global, BigFrame.eval_func, ↓IntWalk.iteOmega, ev e43, ev e51, dl, hlm, dg, dg2, dg3, hsub, hsub2, hsub3, dc, q0, q1, q2, qa, p0]
                with_reducible rfl
              apply Build.detg 53 Ext.refl (by rfl) (by rfl) rfl rfl
              case h =>   -- 38: t53 := Op.binOp BinOp.geq 3 (tmp 48) (tmp 52) 3
                intro ax wx hE hR hF
                have e43 : ax.eval (.tmp 43) = _ := hF 28 (det 43 _) (by decide) (mem4 (mem4 (.tail _ (.head _))))
                have e48 : ax.eval (.tmp 48) = _ := hF 33 (det 48 _) (by decide) (mem4 (.head _))
                have e52 : ax.eval (.tmp 52) = _ := hF 37 (det 52 _) (by decide) (.head _)
                refine ⟨e43, ?_⟩
                simp [go_sem, BigFrame.eval_const, BigFrame.eval_global, BigFrame.eval_func, ↓IntWalk.iteOmega, ev e43, ev e48, ev e52, dl, hlm, dg, dg2, dg3, hsub, hsub2, hsub3, dc]
                with_reducible rfl
              apply Build.detg 54 Ext.refl (by rfl) (by rfl) rfl rfl
              case h =>   -- 39: t54 := Op.pick (tmp 43) (tmp 53) (const (Value.bool false))
                intro ax wx hE hR hF
                have e40 : ax.eval (.tmp 40) = _ := hF 25 (det 40 _) (by decide) (mem4 (mem4 (mem4 (.tail _ (.head _)))))
                have e43 : ax.eval (.tmp 43) = _ := hF 28 (det 43 _) (by decide) (mem4 (mem4 (.tail _ (.tail _ (.head _)))))
                have e53 : ax.eval (.tmp 53) = _ := hF 38 (det 53 _) (by decide) (.head _)
                refine ⟨e40, ?_⟩
                simp [go_sem, BigFrame.eval_const, BigFrame.eval_global, BigFrame.eval_func, ↓IntWalk.iteOmega, ev e40, ev e43, ev e53, dl, hlm, dg, dg2, dg3, hsub, hsub2, hsub3, dc]
                with_reducible rfl
              apply Build.det 55 Ext.refl (by rfl) (by rfl) rfl
              case h =>   -- 40: t55 := Op.pick (tmp 40) (const (Value.bool true)) (tmp 54)
                intro ax wx hE hR hF
                have e40 : ax.eval (.tmp 40) = _ := hF 25 (det 40 _) (by decide) (mem4 (mem4 (mem4 (.tail _ (.tail _ (.head _))))))
                have e54 : ax.eval (.tmp 54) = _ := hF 39 (det 54 _) (by decide) (.head _)
                simp [go_sem, BigFrame.eval_const, BigFrame.eval_global, BigFrame.eval_func, ↓IntWalk.iteOmega, ev e40, ev e54, dl, hlm, dg, dg2, dg3, hsub, hsub2, hsub3, dc]
                with_reducible rfl
              apply Build.stop
              refine ⟨by kernel_rfl, .inl ⟨rfl, ?_⟩⟩
              intro ax w2 hE R2 hF
              have e15 : ax.eval (.tmp 15) = _ := hF 0 (det 15 _) (mem16 (mem16 (mem4 (mem4 (.head _)))))
              have e16 : ax.eval (.tmp 16) = _ := hF 1 (det 16 _) (mem16 (mem16 (mem4 (.tail _ (.tail _ (.tail _ (.head _)))))))
              have e17 : ax.eval (.tmp 17) = _ := hF 2 (det 17 _) (mem16 (mem16 (mem4 (.tail _ (.tail _ (.head _))))))
              have e18 : ax.eval (.tmp 18) = _ := hF 3 (det 18 _) (mem16 (mem16 (mem4 (.tail _ (.head _)))))
              have e19 : ax.eval (.tmp 19) = _ := hF 4 (det 19 _) (mem16 (mem16 (mem4 (.head _))))
              have e20 : ax.eval (.tmp 20) = _ := hF 5 (det 20 _) (mem16 (mem16 (.tail _ (.tail _ (.tail _ (.head _))))))
              have e21 : ax.eval (.tmp 21) = _ := hF 6 (det 21 _) (mem16 (mem16 (.tail _ (.tail _ (.head _)))))
              have e22 : ax.eval (.tmp 22) = _ := hF 7 (det 22 _) (mem16 (mem16 (.tail _ (.head _))))
              have e23 : ax.eval (.tmp 23) = _ := hF 8 (det 23 _) (mem16 (mem16 (.head _)))
              have e24 : ax.eval (.tmp 24) = _ := hF 9 (det 24 _) (mem16 (mem4 (mem4 (mem4 (.tail _ (.tail _ (.tail _ (.head _))))))))
              have e25 : ax.eval (.tmp 25) = _ := hF 10 (det 25 _) (mem16 (mem4 (mem4 (mem4 (.tail _ (.tail _ (.head _)))))))
              have e26 : ax.eval (.tmp 26) = _ := hF 11 (det 26 _) (mem16 (mem4 (mem4 (mem4 (.tail _ (.head _))))))
              have e27 : ax.eval (.tmp 27) = _ := hF 12 (det 27 _) (mem16 (mem4 (mem4 (mem4 (.head _)))))
              have e28 : ax.eval (.tmp 28) = _ := hF 13 (det 28 _) (mem16 (mem4 (mem4 (.tail _ (.tail _ (.tail _ (.head _)))))))
              have e29 : ax.eval (.tmp 29) = _ := hF 14 (det 29 _) (mem16 (mem4 (mem4 (.tail _ (.tail _ (.head _))))))
              have e30 : ax.eval (.tmp 30) = _ := hF 15 (det 30 _) (mem16 (mem4 (mem4 (.tail _ (.head _)))))
              have e31 : ax.eval (.tmp 31) = _ := hF 16 (det 31 _) (mem16 (mem4 (mem4 (.head _))))
              have e32 : ax.eval (.tmp 32) = _ := hF 17 (det 32 _) (mem16 (mem4 (.tail _ (.tail _ (.tail _ (.head _))))))
              have e33 : ax.eval (.tmp 33) = _ := hF 18 (det 33 _) (mem16 (mem4 (.tail _ (.tail _ (.head _)))))
              have e34 : ax.eval (.tmp 34) = _ := hF 19 (det 34 _) (mem16 (mem4 (.tail _ (.head _))))
              have e35 : ax.eval (.tmp 35) = _ := hF 20 (det 35 _) (mem16 (mem4 (.head _)))
              have e36 : ax.eval (.tmp 36) = _ := hF 21 (det 36 _) (mem16 (.tail _ (.tail _ (.tail _ (.head _)))))
              have e37 : ax.eval (.tmp 37) = _ := hF 22 (det 37 _) (mem16 (.tail _ (.tail _ (.head _))))
              have e38 : ax.eval (.tmp 38) = _ := hF 23 (det 38 _) (mem16 (.tail _ (.head _)))
              have e39 : ax.eval (.tmp 39) = _ := hF 24 (det 39 _) (mem16 (.head _))
              have e40 : ax.eval (.tmp 40) = _ := hF 25 (det 40 _) (mem4 (mem4 (mem4 (.tail _ (.tail _ (.tail _ (.head _)))))))
              have e41 : ax.eval (.tmp 41) = _ := hF 26 (det 41 _) (mem4 (mem4 (mem4 (.tail _ (.tail _ (.head _))))))
              have e42 : ax.eval (.tmp 42) = _ := hF 27 (det 42 _) (mem4 (mem4 (mem4 (.tail _ (.head _)))))
              have e43 : ax.eval (.tmp 43) = _ := hF 28 (det 43 _) (mem4 (mem4 (mem4 (.head _))))
              have e44 : ax.eval (.tmp 44) = _ := hF 29 (det 44 _) (mem4 (mem4 (.tail _ (.tail _ (.tail _ (.head _))))))
              have e45 : ax.eval (.tmp 45) = _ := hF 30 (det 45 _) (mem4 (mem4 (.tail _ (.tail _ (.head _)))))
              have e46 : ax.eval (.tmp 46) = _ := hF 31 (det 46 _) (mem4 (mem4 (.tail _ (.head _))))
              have e47 : ax.eval (.tmp 47) = _ := hF 32 (det 47 _) (mem4 (mem4 (.head _)))
              have e48 : ax.eval (.tmp 48) = _ := hF 33 (det 48 _) (mem4 (.tail _ (.tail _ (.tail _ (.head _)))))
              have e49 : ax.eval (.tmp 49) = _ := hF 34 (det 49 _) (mem4 (.tail _ (.tail _ (.head _))))
              have e50 : ax.eval (.tmp 50) = _ := hF 35 (det 50 _) (mem4 (.tail _ (.head _)))
              have e51 : ax.eval (.tmp 51) = _ := hF 36 (det 51 _) (mem4 (.head _))
              have e52 : ax.eval (.tmp 52) = _ := hF 37 (det 52 _) (.tail _ (.tail _ (.tail _ (.head _))))
              have e53 : ax.eval (.tmp 53) = _ := hF 38 (det 53 _) (.tail _ (.tail _ (.head _)))
              have e54 : ax.eval (.tmp 54) = _ := hF 39 (det 54 _) (.tail _ (.head _))
              have e55 : ax.eval (.tmp 55) = _ := hF 40 (det 55 _) (.head _)
              rw [AllEq.frame (D := [15, 16, 17, 18, 19, 20, 21, 22, 23, 24, 25, 26, 27, 28, 29, 30, 31, 32, 33, 34, 35, 36, 37, 38, 39, 40, 41, 42, 43, 44, 45, 46, 47, 48, 49, 50, 51, 52, 53, 54, 55]) (AllEq.cons e15 (AllEq.cons e16 (AllEq.cons e17 (AllEq.cons e18 (AllEq.cons e19 (AllEq.cons e20 (AllEq.cons e21 (AllEq.cons e22 (AllEq.cons e23 (AllEq.cons e24 (AllEq.cons e25 (AllEq.cons e26 (AllEq.cons e27 (AllEq.cons e28 (AllEq.cons e29 (AllEq.cons e30 (AllEq.cons e31 (AllEq.cons e32 (AllEq.cons e33 (AllEq.cons e34 (AllEq.cons e35 (AllEq.cons e36 (AllEq.cons e37 (AllEq.cons e38 (AllEq.cons e39 (AllEq.cons e40 (AllEq.cons e41 (AllEq.cons e42 (AllEq.cons e43 (AllEq.cons e44 (AllEq.cons e45 (AllEq.cons e46 (AllEq.cons e47 (AllEq.cons e48 (AllEq.cons e49 (AllEq.cons e50 (AllEq.cons e51 (AllEq.cons e52 (AllEq.cons e53 (AllEq.cons e54 (AllEq.cons e55 (AllEq.nil)))))))))))))))))))))))))))))))))))))))))) hE rfl]
              clear hF hE e15 e16 e17 e18 e19 e20 e21 e22 e23 e24 e25 e26 e27 e28 e29 e30 e31 e32 e33 e34 e35 e36 e37 e38 e39 e40 e41 e42 e43 e44 e45 e46 e47 e48 e49 e50 e51 e52 e53 e54 e55
              simp only [List.foldl_cons, List.foldl_nil, Act.put, List.setIfInBounds_toArray, List.set_cons_succ, List.set_cons_zero]
              have hEx2 := hEx0.trans R2
              have hA2 := hA0.ext R2
              go_upto_region 7 with fail
              clear R2
              go_loopw [8] (fun k wi => ∃ m : Nat, k = .int .i64 m ∧ m ≤ j ∧ Ext w wi ∧ Blk wi w.heap.size 30 #[.int .i64 s0, .int .i64 s1] ∧ Hid (∀ i, i < m → ¬ (tAt L i = (T : Int) ∧ sAt L i = s))) (fun k _ => j - (intOf k).toNat)
              case atStart => exact ⟨0, rfl, by omega, hEx2, hA2, fun i hi => absurd hi (by omega)⟩
              case round =>
                obtain ⟨m, rfl, hm1, hExi, hAi, HI⟩ := hrel
                by_cases hmj : m < j
                · have hmx : m < L.length := by omega
                  have HPM0 := fun (W : World) (h : Ext w W) => hrs.ps_at h hmx
                  obtain ⟨tm, htm⟩ : ∃ tt, tAt L m = tt := ⟨_, rfl⟩
                  obtain ⟨sm, hsm⟩ : ∃ tt, sAt L m = tt := ⟨_, rfl⟩
                  rw [htm, hsm] at HPM0
                  have HPM := Lib.hid (fun (W : World) (h : Ext w W) => (by obtain ⟨_, _, he, h1, h2⟩ := HPM0 W h; cases he; exact ⟨h1, h2⟩ : W.cell? ⟨b2, o2 + m * 2, none⟩ = some (.int .i64 tm) ∧ W.cell? ⟨b2, o2 + m * 2 + 1, none⟩ = some (.int .i64 sm)))
                  have Htm := Lib.hid htm
                  have Hsm := Lib.hid hsm
                  clear HPM0 htm hsm hEx2 hA2
                  go_upto_region 9 with fail
                  by_cases het : tm = (T : Int)
                  · by_cases hes : sm = s
                    · have HBAD : ¬ okP L s0 s1 j := fun h => by
                        have h1 := (HOKE.out h).2.2.1
                        rw [seenB_yes L j m (T : Int) s hmj hmx (Htm.out.trans het) (Hsm.out.trans hes)] at h1
                        cases h1
                      refine wp_typed (R := Ext) (w0 := wr) [[], [], [0, 1], [0, 1, 2], [], [], [4, 5], [4, 5, 6], [0, 1, 2, 3, 4, 5, 6, 7]] [61, 62, 63, 64, 65, 66, 67, 68, 69] Ext.refl (fun _ _ _ => Ext.trans) (Ext.drew _) (by kernel_rfl) ?_
                      apply Build.det 61 Ext.refl (by rfl) (by rfl) rfl
                      case h =>   -- 0: t61 := Op.move (tmp 1)
                        intro ax wx hE hR hF
                        have e1 : ax.eval (.tmp 1) = .slice (some ⟨b2, o2, none⟩) len cap2 := hE.eval 1 (by rfl) rfl
                        simp [go_sem, BigFrame.eval_const, BigFrame.eval_global, BigFrame.eval_func, ↓IntWalk.iteOmega, ev e1, het, hes]
                        with_reducible rfl
                      apply Build.det 62 Ext.refl (by rfl) (by rfl) rfl
                      case h =>   -- 1: t62 := Op.move (tmp 8)
                        intro ax wx hE hR hF
                        have e8 : ax.eval (.tmp 8) = .int .i64 (m : Int) := hE.eval 8 (by rfl) rfl
                        simp [go_sem, BigFrame.eval_const, BigFrame.eval_global, BigFrame.eval_func, ↓IntWalk.iteOmega, ev e8, het, hes]
                        with_reducible rfl
                      apply Build.det 63 Ext.refl (by rfl) (by rfl) rfl
                      case h =>   -- 2: t63 := Op.indexAddr 42 (tmp 61) (tmp 62)
                        intro ax wx hE hR hF
                        have e61 : ax.eval (.tmp 61) = _ := hF 0 (det 61 _) (by decide) (.tail _ (.head _))
                        have e62 : ax.eval (.tmp 62) = _ := hF 1 (det 62 _) (by decide) (.head _)
                        simp [go_sem, BigFrame.eval_const, BigFrame.eval_global, BigFrame.eval_func, ↓IntWalk.iteOmega, ev e61, ev e62, het, hes]
                        with_reducible rfl
                      apply Build.det 64 Ext.refl (by rfl) (by rfl) rfl
                      case h =>   -- 3: t64 := Op.load 23 (tmp 63)
                        intro ax wx hE hR hF
                        have e63 : ax.eval (.tmp 63) = _ := hF 2 (det 63 _) (by decide) (.head _)
                        have p0 := HP2.out _ (hExi.trans hR); have p1 := HPM.out _ (hExi.trans hR); obtain ⟨p0, p2⟩ := p0; obtain ⟨p1, p3⟩ := p1
                        simp [go_sem, BigFrame.eval_const, BigFrame.eval_global, BigFrame.eval_func, ↓IntWalk.iteOmega, ev e63, het, hes, p0, p1, p2, p3]
                        with_reducible rfl
                      apply Build.det 65 Ext.refl (by rfl) (by rfl) rfl
                      case h =>   -- 4: t65 := Op.move (tmp 1)
                        intro ax wx hE hR hF
                        have e1 : ax.eval (.tmp 1) = .slice (some ⟨b2, o2, none⟩) len cap2 := hE.eval 1 (by rfl) rfl
                        simp [go_sem, BigFrame.eval_const, BigFrame.eval_global, BigFrame.eval_func, ↓IntWalk.iteOmega, ev e1, het, hes]
                        with_reducible rfl
                      apply Build.det 66 Ext.refl (by rfl) (by rfl) rfl
                      case h =>   -- 5: t66 := Op.move (tmp 7)
                        intro ax wx hE hR hF
                        have e7 : ax.eval (.tmp 7) = .int .i64 (j : Int) := hE.eval 7 (by rfl) rfl
                        simp [go_sem, BigFrame.eval_const, BigFrame.eval_global, BigFrame.eval_func, ↓IntWalk.iteOmega, ev e7, het, hes]
                        with_reducible rfl
                      apply Build.det 67 Ext.refl (by rfl) (by rfl) rfl
                      case h =>   -- 6: t67 := Op.indexAddr 42 (tmp 65) (tmp 66)
                        intro ax wx hE hR hF
                        have e65 : ax.eval (.tmp 65) = _ := hF 4 (det 65 _) (by decide) (.tail _ (.head _))
                        have e66 : ax.eval (.tmp 66) = _ := hF 5 (det 66 _) (by decide) (.head _)
                        simp [go_sem, BigFrame.eval_const, BigFrame.eval_global, BigFrame.eval_func, ↓IntWalk.iteOmega, ev e65, ev e66, het, hes]
                        with_reducible rfl
                      apply Build.det 68 Ext.refl (by rfl) (by rfl) rfl
                      case h =>   -- 7: t68 := Op.load 23 (tmp 67)
                        intro ax wx hE hR hF
                        have e67 : ax.eval (.tmp 67) = _ := hF 6 (det 67 _) (by decide) (.head _)
                        have p0 := HP2.out _ (hExi.trans hR); have p1 := HPM.out _ (hExi.trans hR); obtain ⟨p0, p2⟩ := p0; obtain ⟨p1, p3⟩ := p1
                        simp [go_sem, BigFrame.eval_const, BigFrame.eval_global, BigFrame.eval_func, ↓IntWalk.iteOmega, ev e67, het, hes, p0, p1, p2, p3]
                        with_reducible rfl
                      apply Build.det 69 Ext.refl (by rfl) (by rfl) rfl
                      case h =>   -- 8: t69 := Op.binOp BinOp.eql 23 (tmp 64) (tmp 68) 23
                        intro ax wx hE hR hF
                        have e64 : ax.eval (.tmp 64) = _ := hF 3 (det 64 _) (by decide) (.tail _ (.tail _ (.tail _ (.tail _ (.head _)))))
                        have e68 : ax.eval (.tmp 68) = _ := hF 7 (det 68 _) (by decide) (.head _)
                        simp [go_sem, BigFrame.eval_const, BigFrame.eval_global, BigFrame.eval_func, ↓IntWalk.iteOmega, ev e64, ev e68, het, hes]
                        with_reducible rfl
                      apply Build.stop
                      refine ⟨by kernel_rfl, .inl ⟨rfl, ?_⟩⟩
                      intro ax w3 hE R3 hF
                      have e61 : ax.eval (.tmp 61) = _ := hF 0 (det 61 _) (.tail _ (.tail _ (.tail _ (.tail _ (.tail _ (.tail _ (.tail _ (.tail _ (.head _)))))))))
                      have e62 : ax.eval (.tmp 62) = _ := hF 1 (det 62 _) (.tail _ (.tail _ (.tail _ (.tail _ (.tail _ (.tail _ (.tail _ (.head _))))))))
                      have e63 : ax.eval (.tmp 63) = _ := hF 2 (det 63 _) (.tail _ (.tail _ (.tail _ (.tail _ (.tail _ (.tail _ (.head _)))))))
                      have e64 : ax.eval (.tmp 64) = _ := hF 3 (det 64 _) (.tail _ (.tail _ (.tail _ (.tail _ (.tail _ (.head _))))))
                      have e65 : ax.eval (.tmp 65) = _ := hF 4 (det 65 _) (.tail _ (.tail _ (.tail _ (.tail _ (.head _)))))
                      have e66 : ax.eval (.tmp 66) = _ := hF 5 (det 66 _) (.tail _ (.tail _ (.tail _ (.head _))))
                      have e67 : ax.eval (.tmp 67) = _ := hF 6 (det 67 _) (.tail _ (.tail _ (.head _)))
                      have e68 : ax.eval (.tmp 68) = _ := hF 7 (det 68 _) (.tail _ (.head _))
                      have e69 : ax.eval (.tmp 69) = _ := hF 8 (det 69 _) (.head _)
                      rw [AllEq.frame (D := [61, 62, 63, 64, 65, 66, 67, 68, 69]) (AllEq.cons e61 (AllEq.cons e62 (AllEq.cons e63 (AllEq.cons e64 (AllEq.cons e65 (AllEq.cons e66 (AllEq.cons e67 (AllEq.cons e68 (AllEq.cons e69 (AllEq.nil)))))))))) hE rfl]
                      clear hF hE e61 e62 e63 e64 e65 e66 e67 e68 e69
                      simp only [List.foldl_cons, List.foldl_nil, Act.put, List.setIfInBounds_toArray, List.set_cons_succ, List.set_cons_zero]
                      have hEx := hExi.trans R3
                      have hG : Hid (GB = false) := HB.out HBAD
                      go_wp2_with fail
                      go_ret
                      exact ⟨by rw [hG.out] <;> rfl, hEx⟩
                    · skip
                      refine wp_typed (R := Ext) (w0 := wr) [[], [], [0, 1], [0, 1, 2], [], [], [4, 5], [4, 5, 6], [0, 1, 2, 3, 4, 5, 6, 7]] [61, 62, 63, 64, 65, 66, 67, 68, 69] Ext.refl (fun _ _ _ => Ext.trans) (Ext.drew _) (by kernel_rfl) ?_
                      apply Build.det 61 Ext.refl (by rfl) (by rfl) rfl
                      case h =>   -- 0: t61 := Op.move (tmp 1)
                        intro ax wx hE hR hF
                        have e1 : ax.eval (.tmp 1) = .slice (some ⟨b2, o2, none⟩) len cap2 := hE.eval 1 (by rfl) rfl
                        simp [go_sem, BigFrame.eval_const, BigFrame.eval_global, BigFrame.eval_func, ↓IntWalk.iteOmega, ev e1, het, hes]
                        with_reducible rfl
                      apply Build.det 62 Ext.refl (by rfl) (by rfl) rfl
                      case h =>   -- 1: t62 := Op.move (tmp 8)
                        intro ax wx hE hR hF
                        have e8 : ax.eval (.tmp 8) = .int .i64 (m : Int) := hE.eval 8 (by rfl) rfl
                        simp [go_sem, BigFrame.eval_const, BigFrame.eval_global, BigFrame.eval_func, ↓IntWalk.iteOmega, ev e8, het, hes]
                        with_reducible rfl
                      apply Build.det 63 Ext.refl (by rfl) (by rfl) rfl
                      case h =>   -- 2: t63 := Op.indexAddr 42 (tmp 61) (tmp 62)
                        intro ax wx hE hR hF
                        have e61 : ax.eval (.tmp 61) = _ := hF 0 (det 61 _) (by decide) (.tail _ (.head _))
                        have e62 : ax.eval (.tmp 62) = _ := hF 1 (det 62 _) (by decide) (.head _)
                        simp [go_sem, BigFrame.eval_const, BigFrame.eval_global, BigFrame.eval_func, ↓IntWalk.iteOmega, ev e61, ev e62, het, hes]
                        with_reducible rfl
                      apply Build.det 64 Ext.refl (by rfl) (by rfl) rfl
                      case h =>   -- 3: t64 := Op.load 23 (tmp 63)
                        intro ax wx hE hR hF
                        have e63 : ax.eval (.tmp 63) = _ := hF 2 (det 63 _) (by decide) (.head _)
                        have p0 := HP2.out _ (hExi.trans hR); have p1 := HPM.out _ (hExi.trans hR); obtain ⟨p0, p2⟩ := p0; obtain ⟨p1, p3⟩ := p1
                        simp [go_sem, BigFrame.eval_const, BigFrame.eval_global, BigFrame.eval_func, ↓IntWalk.iteOmega, ev e63, het, hes, p0, p1, p2, p3]
                        with_reducible rfl
                      apply Build.det 65 Ext.refl (by rfl) (by rfl) rfl
                      case h =>   -- 4: t65 := Op.move (tmp 1)
                        intro ax wx hE hR hF
                        have e1 : ax.eval (.tmp 1) = .slice (some ⟨b2, o2, none⟩) len cap2 := hE.eval 1 (by rfl) rfl
                        simp [go_sem, BigFrame.eval_const, BigFrame.eval_global, BigFrame.eval_func, ↓IntWalk.iteOmega, ev e1, het, hes]
                        with_reducible rfl
                      apply Build.det 66 Ext.refl (by rfl) (by rfl) rfl
                      case h =>   -- 5: t66 := Op.move (tmp 7)
                        intro ax wx hE hR hF
                        have e7 : ax.eval (.tmp 7) = .int .i64 (j : Int) := hE.eval 7 (by rfl) rfl
                        simp [go_sem, BigFrame.eval_const, BigFrame.eval_global, BigFrame.eval_func, ↓IntWalk.iteOmega, ev e7, het, hes]
                        with_reducible rfl
                      apply Build.det 67 Ext.refl (by rfl) (by rfl) rfl
                      case h =>   -- 6: t67 := Op.indexAddr 42 (tmp 65) (tmp 66)
                        intro ax wx hE hR hF
                        have e65 : ax.eval (.tmp 65) = _ := hF 4 (det 65 _) (by decide) (.tail _ (.head _))
                        have e66 : ax.eval (.tmp 66) = _ := hF 5 (det 66 _) (by decide) (.head _)
                        simp [go_sem, BigFrame.eval_const, BigFrame.eval_global, BigFrame.eval_func, ↓IntWalk.iteOmega, ev e65, ev e66, het, hes]
                        with_reducible rfl
                      apply Build.det 68 Ext.refl (by rfl) (by rfl) rfl
                      case h =>   -- 7: t68 := Op.load 23 (tmp 67)
                        intro ax wx hE hR hF
                        have e67 : ax.eval (.tmp 67) = _ := hF 6 (det 67 _) (by decide) (.head _)
                        have p0 := HP2.out _ (hExi.trans hR); have p1 := HPM.out _ (hExi.trans hR); obtain ⟨p0, p2⟩ := p0; obtain ⟨p1, p3⟩ := p1
                        simp [go_sem, BigFrame.eval_const, BigFrame.eval_global, BigFrame.eval_func, ↓IntWalk.iteOmega, ev e67, het, hes, p0, p1, p2, p3]
                        with_reducible rfl
                      apply Build.det 69 Ext.refl (by rfl) (by rfl) rfl
                      case h =>   -- 8: t69 := Op.binOp BinOp.eql 23 (tmp 64) (tmp 68) 23
                        intro ax wx hE hR hF
                        have e64 : ax.eval (.tmp 64) = _ := hF 3 (det 64 _) (by decide) (.tail _ (.tail _ (.tail _ (.tail _ (.head _)))))
                        have e68 : ax.eval (.tmp 68) = _ := hF 7 (det 68 _) (by decide) (.head _)
                        simp [go_sem, BigFrame.eval_const, BigFrame.eval_global, BigFrame.eval_func, ↓IntWalk.iteOmega, ev e64, ev e68, het, hes]
                        with_reducible rfl
                      apply Build.stop
                      refine ⟨by kernel_rfl, .inl ⟨rfl, ?_⟩⟩
                      intro ax w3 hE R3 hF
                      have e61 : ax.eval (.tmp 61) = _ := hF 0 (det 61 _) (.tail _ (.tail _ (.tail _ (.tail _ (.tail _ (.tail _ (.tail _ (.tail _ (.head _)))))))))
                      have e62 : ax.eval (.tmp 62) = _ := hF 1 (det 62 _) (.tail _ (.tail _ (.tail _ (.tail _ (.tail _ (.tail _ (.tail _ (.head _))))))))
                      have e63 : ax.eval (.tmp 63) = _ := hF 2 (det 63 _) (.tail _ (.tail _ (.tail _ (.tail _ (.tail _ (.tail _ (.head _)))))))
                      have e64 : ax.eval (.tmp 64) = _ := hF 3 (det 64 _) (.tail _ (.tail _ (.tail _ (.tail _ (.tail _ (.head _))))))
                      have e65 : ax.eval (.tmp 65) = _ := hF 4 (det 65 _) (.tail _ (.tail _ (.tail _ (.tail _ (.head _)))))
                      have e66 : ax.eval (.tmp 66) = _ := hF 5 (det 66 _) (.tail _ (.tail _ (.tail _ (.head _))))
                      have e67 : ax.eval (.tmp 67) = _ := hF 6 (det 67 _) (.tail _ (.tail _ (.head _)))
                      have e68 : ax.eval (.tmp 68) = _ := hF 7 (det 68 _) (.tail _ (.head _))
                      have e69 : ax.eval (.tmp 69) = _ := hF 8 (det 69 _) (.head _)
                      rw [AllEq.frame (D := [61, 62, 63, 64, 65, 66, 67, 68, 69]) (AllEq.cons e61 (AllEq.cons e62 (AllEq.cons e63 (AllEq.cons e64 (AllEq.cons e65 (AllEq.cons e66 (AllEq.cons e67 (AllEq.cons e68 (AllEq.cons e69 (AllEq.nil)))))))))) hE rfl]
                      clear hF hE e61 e62 e63 e64 e65 e66 e67 e68 e69
                      simp only [List.foldl_cons, List.foldl_nil, Act.put, List.setIfInBounds_toArray, List.set_cons_succ, List.set_cons_zero]
                      go_wp2_with fail
                      go_roundw
                      case rel => exact ⟨m + 1, by go_num, by omega, hExi.trans R3, hAi.ext R3, fun i hi => by
                        by_cases e : i = m
                        · subst e; exact fun h => hes (Hsm.out.symm.trans h.2)
                        · exact HI.out i (by omega)⟩
                      case measure => simp [intOf]; omega
                  · skip
                    refine wp_typed (R := Ext) (w0 := wr) [[], [], [0, 1], [0, 1, 2], [], [], [4, 5], [4, 5, 6], [0, 1, 2, 3, 4, 5, 6, 7]] [61, 62, 63, 64, 65, 66, 67, 68, 69] Ext.refl (fun _ _ _ => Ext.trans) (Ext.drew _) (by kernel_rfl) ?_
                    apply Build.det 61 Ext.refl (by rfl) (by rfl) rfl
                    case h =>   -- 0: t61 := Op.move (tmp 1)
                      intro ax wx hE hR hF
                      have e1 : ax.eval (.tmp 1) = .slice (some ⟨b2, o2, none⟩) len cap2 := hE.eval 1 (by rfl) rfl
                      simp [go_sem, BigFrame.eval_const, BigFrame.eval_global, BigFrame.eval_func, ↓IntWalk.iteOmega, ev e1, het]
                      with_reducible rfl
                    apply Build.det 62 Ext.refl (by rfl) (by rfl) rfl
                    case h =>   -- 1: t62 := Op.move (tmp 8)
                      intro ax wx hE hR hF
                      have e8 : ax.eval (.tmp 8) = .int .i64 (m : Int) := hE.eval 8 (by rfl) rfl
                      simp [go_sem, BigFrame.eval_const, BigFrame.eval_global, BigFrame.eval_func, ↓IntWalk.iteOmega, ev e8, het]
                      with_reducible rfl
                    apply Build.det 63 Ext.refl (by rfl) (by rfl) rfl
                    case h =>   -- 2: t63 := Op.indexAddr 42 (tmp 61) (tmp 62)
                      intro ax wx hE hR hF
                      have e61 : ax.eval (.tmp 61) = _ := hF 0 (det 61 _) (by decide) (.tail _ (.head _))
                      have e62 : ax.eval (.tmp 62) = _ := hF 1 (det 62 _) (by decide) (.head _)
                      simp [go_sem, BigFrame.eval_const, BigFrame.eval_global, BigFrame.eval_func, ↓IntWalk.iteOmega, ev e61, ev e62, het]
                      with_reducible rfl
                    apply Build.det 64 Ext.refl (by rfl) (by rfl) rfl
                    case h =>   -- 3: t64 := Op.load 23 (tmp 63)
                      intro ax wx hE hR hF
                      have e63 : ax.eval (.tmp 63) = _ := hF 2 (det 63 _) (by decide) (.head _)
                      have p0 := HP2.out _ (hExi.trans hR); have p1 := HPM.out _ (hExi.trans hR); obtain ⟨p0, p2⟩ := p0; obtain ⟨p1, p3⟩ := p1
                      simp [go_sem, BigFrame.eval_const, BigFrame.eval_global, BigFrame.eval_func, ↓IntWalk.iteOmega, ev e63, het, p0, p1, p2, p3]
                      with_reducible rfl
                    apply Build.det 65 Ext.refl (by rfl) (by rfl) rfl
                    case h =>   -- 4: t65 := Op.move (tmp 1)
                      intro ax wx hE hR hF
                      have e1 : ax.eval (.tmp 1) = .slice (some ⟨b2, o2, none⟩) len cap2 := hE.eval 1 (by rfl) rfl
                      simp [go_sem, BigFrame.eval_const, BigFrame.eval_global, BigFrame.eval_func, ↓IntWalk.iteOmega, ev e1, het]
                      with_reducible rfl
                    apply Build.det 66 Ext.refl (by rfl) (by rfl) rfl
                    case h =>   -- 5: t66 := Op.move (tmp 7)
                      intro ax wx hE hR hF
                      have e7 : ax.eval (.tmp 7) = .int .i64 (j : Int) := hE.eval 7 (by rfl) rfl
                      simp [go_sem, BigFrame.eval_const, BigFrame.eval_global, BigFrame.eval_func, ↓IntWalk.iteOmega, ev e7, het]
                      with_reducible rfl
                    apply Build.det 67 Ext.refl (by rfl) (by rfl) rfl
                    case h =>   -- 6: t67 := Op.indexAddr 42 (tmp 65) (tmp 66)
                      intro ax wx hE hR hF
                      have e65 : ax.eval (.tmp 65) = _ := hF 4 (det 65 _) (by decide) (.tail _ (.head _))
                      have e66 : ax.eval (.tmp 66) = _ := hF 5 (det 66 _) (by decide) (.head _)
                      simp [go_sem, BigFrame.eval_const, BigFrame.eval_global, BigFrame.eval_func, ↓IntWalk.iteOmega, ev e65, ev e66, het]
                      with_reducible rfl
                    apply Build.det 68 Ext.refl (by rfl) (by rfl) rfl
                    case h =>   -- 7: t68 := Op.load 23 (tmp 67)
                      intro ax wx hE hR hF
                      have e67 : ax.eval (.tmp 67) = _ := hF 6 (det 67 _) (by decide) (.head _)
                      have p0 := HP2.out _ (hExi.trans hR); have p1 := HPM.out _ (hExi.trans hR); obtain ⟨p0, p2⟩ := p0; obtain ⟨p1, p3⟩ := p1
                      simp [go_sem, BigFrame.eval_const, BigFrame.eval_global, BigFrame.eval_func, ↓IntWalk.iteOmega, ev e67, het, p0, p1, p2, p3]
                      with_reducible rfl
                    apply Build.det 69 Ext.refl (by rfl) (by rfl) rfl
                    case h =>   -- 8: t69 := Op.binOp BinOp.eql 23 (tmp 64) (tmp 68) 23
                      intro ax wx hE hR hF
                      have e64 : ax.eval (.tmp 64) = _ := hF 3 (det 64 _) (by decide) (.tail _ (.tail _ (.tail _ (.tail _ (.head _)))))
                      have e68 : ax.eval (.tmp 68) = _ := hF 7 (det 68 _) (by decide) (.head _)
                      simp [go_sem, BigFrame.eval_const, BigFrame.eval_global, BigFrame.eval_func, ↓IntWalk.iteOmega, ev e64, ev e68, het]
                      with_reducible rfl
                    apply Build.stop
                    refine ⟨by kernel_rfl, .inl ⟨rfl, ?_⟩⟩
                    intro ax w3 hE R3 hF
                    have e61 : ax.eval (.tmp 61) = _ := hF 0 (det 61 _) (.tail _ (.tail _ (.tail _ (.tail _ (.tail _ (.tail _ (.tail _ (.tail _ (.head _)))))))))
                    have e62 : ax.eval (.tmp 62) = _ := hF 1 (det 62 _) (.tail _ (.tail _ (.tail _ (.tail _ (.tail _ (.tail _ (.tail _ (.head _))))))))
                    have e63 : ax.eval (.tmp 63) = _ := hF 2 (det 63 _) (.tail _ (.tail _ (.tail _ (.tail _ (.tail _ (.tail _ (.head _)))))))
                    have e64 : ax.eval (.tmp 64) = _ := hF 3 (det 64 _) (.tail _ (.tail _ (.tail _ (.tail _ (.tail _ (.head _))))))
                    have e65 : ax.eval (.tmp 65) = _ := hF 4 (det 65 _) (.tail _ (.tail _ (.tail _ (.tail _ (.head _)))))
                    have e66 : ax.eval (.tmp 66) = _ := hF 5 (det 66 _) (.tail _ (.tail _ (.tail _ (.head _))))
                    have e67 : ax.eval (.tmp 67) = _ := hF 6 (det 67 _) (.tail _ (.tail _ (.head _)))
                    have e68 : ax.eval (.tmp 68) = _ := hF 7 (det 68 _) (.tail _ (.head _))
                    have e69 : ax.eval (.tmp 69) = _ := hF 8 (det 69 _) (.head _)
                    rw [AllEq.frame (D := [61, 62, 63, 64, 65, 66, 67, 68, 69]) (AllEq.cons e61 (AllEq.cons e62 (AllEq.cons e63 (AllEq.cons e64 (AllEq.cons e65 (AllEq.cons e66 (AllEq.cons e67 (AllEq.cons e68 (AllEq.cons e69 (AllEq.nil)))))))))) hE rfl]
                    clear hF hE e61 e62 e63 e64 e65 e66 e67 e68 e69
                    simp only [List.foldl_cons, List.foldl_nil, Act.put, List.setIfInBounds_toArray, List.set_cons_succ, List.set_cons_zero]
                    go_wp2_with fail
                    go_roundw
                    case rel => exact ⟨m + 1, by go_num, by omega, hExi.trans R3, hAi.ext R3, fun i hi => by
                      by_cases e : i = m
                      · subst e; exact fun h => het (Htm.out.symm.trans h.1)
                      · exact HI.out i (by omega)⟩
                    case measure => simp [intOf]; omega
                · obtain rfl : m = j := by omega
                  have hsn := seenB_no L m (T : Int) s HI.out
                  go_wp2_with fail
                  go_roundw
                  case rel => exact ⟨m + 1, by go_num, by omega, hExi, hAi, HS.out (HOKW.out hsn)⟩
                  case measure => simp [intOf]; omega
            · have dc : decide (c ≤ c0) = true := by rw [decide_eq_true_iff]; omega
              have HBAD : ¬ okP L s0 s1 j := fun h => by have h1 := (HOKE.out h).2.2.2; rw [HC0.out] at h1; omega
              clear hle HPP0 hc0 hp hj0
              refine wp_typed (R := Ext) (w0 := wr) [[], [], [0, 1], [0, 1, 2], [], [], [4, 5], [4, 5, 6], [0, 1, 2, 3, 4, 5, 6, 7], [0, 1, 2, 3, 4, 5, 6, 7, 8], [0, 1, 2, 3, 4, 5, 6, 7, 8, 9], [0, 1, 2, 3, 4, 5, 6, 7, 8, 9, 10], [0, 1, 2, 3, 4, 5, 6, 7, 8, 9, 10], [0, 1, 2, 3, 4, 5, 6, 7, 8, 9, 10, 11, 12], [0, 1, 2, 3, 4, 5, 6, 7, 8, 9, 10, 11, 12, 13], [0, 1, 2, 3, 4, 5, 6, 7, 8, 9, 10, 11, 12, 13, 14], [0, 1, 2, 3, 4, 5, 6, 7, 8, 9, 10], [0, 1, 2, 3, 4, 5, 6, 7, 8, 9, 10], [0, 1, 2, 3, 4, 5, 6, 7, 8, 9, 10, 16, 17], [0, 1, 2, 3, 4, 5, 6, 7, 8, 9, 10, 16, 17, 18], [0, 1, 2, 3, 4, 5, 6, 7, 8, 9, 10, 16, 17, 18, 19], [0, 1, 2, 3, 4, 5, 6, 7, 8, 9, 10, 16, 17, 18, 19, 20], [0, 1, 2, 3, 4, 5, 6, 7, 8, 9, 10, 16, 17, 18, 19, 20, 21], [0, 1, 2, 3, 4, 5, 6, 7, 8, 9, 10, 11, 12, 13, 14, 15, 16, 17, 18, 19, 20, 21, 22], [0, 1, 2, 3, 4, 5, 6, 7, 8, 9, 10, 11, 12, 13, 14, 15, 16, 17, 18, 19, 20, 21, 22, 23], [0, 1, 2, 3, 4, 5, 6, 7, 8, 9, 10, 11, 12, 13, 14, 15, 16, 17, 18, 19, 20, 21, 22, 23, 24], [0, 1, 2, 3, 4, 5, 6, 7, 8, 9, 10, 11, 12, 13, 14, 15, 16, 17, 18, 19, 20, 21, 22, 23, 24, 25], [0, 1, 2, 3, 4, 5, 6, 7, 8, 9, 10, 11, 12, 13, 14, 15, 16, 17, 18, 19, 20, 21, 22, 23, 24, 25, 26], [0, 1, 2, 3, 4, 5, 6, 7, 8, 9, 10, 11, 12, 13, 14, 15, 16, 17, 18, 19, 20, 21, 22, 23, 24, 25, 26, 27], [0, 1, 2, 3, 4, 5, 6, 7, 8, 9, 10, 11, 12, 13, 14, 15, 16, 17, 18, 19, 20, 21, 22, 23, 24, 25, 26, 27, 28], [0, 1, 2, 3, 4, 5, 6, 7, 8, 9, 10, 11, 12, 13, 14, 15, 16, 17, 18, 19, 20, 21, 22, 23, 24, 25, 26, 27, 28], [0, 1, 2, 3, 4, 5, 6, 7, 8, 9, 10, 11, 12, 13, 14, 15, 16, 17, 18, 19, 20, 21, 22, 23, 24, 25, 26, 27, 28, 30], [0, 1, 2, 3, 4, 5, 6, 7, 8, 9, 10, 11, 12, 13, 14, 15, 16, 17, 18, 19, 20, 21, 22, 23, 24, 25, 26, 27, 28, 29, 30, 31], [0, 1, 2, 3, 4, 5, 6, 7, 8, 9, 10, 11, 12, 13, 14, 15, 16, 17, 18, 19, 20, 21, 22, 23, 24, 25, 26, 27, 28, 29, 30, 31, 32], [0, 1, 2, 3, 4, 5, 6, 7, 8, 9, 10, 11, 12, 13, 14, 15, 16, 17, 18, 19, 20, 21, 22, 23, 24, 25, 26, 27, 28], [0, 1, 2, 3, 4, 5, 6, 7, 8, 9, 10, 11, 12, 13, 14, 15, 16, 17, 18, 19, 20, 21, 22, 23, 24, 25, 26, 27, 28], [0, 1, 2, 3, 4, 5, 6, 7, 8, 9, 10, 11, 12, 13, 14, 15, 16, 17, 18, 19, 20, 21, 22, 23, 24, 25, 26, 27, 28, 34, 35], [0, 1, 2, 3, 4, 5, 6, 7, 8, 9, 10, 11, 12, 13, 14, 15, 16, 17, 18, 19, 20, 21, 22, 23, 24, 25, 26, 27, 28, 34, 35, 36], [0, 1, 2, 3, 4, 5, 6, 7, 8, 9, 10, 11, 12, 13, 14, 15, 16, 17, 18, 19, 20, 21, 22, 23, 24, 25, 26, 27, 28, 29, 30, 31, 32, 33, 34, 35, 36, 37], [0, 1, 2, 3, 4, 5, 6, 7, 8, 9, 10, 11, 12, 13, 14, 15, 16, 17, 18, 19, 20, 21, 22, 23, 24, 25, 26, 27, 28, 29, 30, 31, 32, 33, 34, 35, 36, 37, 38], [0, 1, 2, 3, 4, 5, 6, 7, 8, 9, 10, 11, 12, 13, 14, 15, 16, 17, 18, 19, 20, 21, 22, 23, 24, 25, 26, 27, 28, 29, 30, 31, 32, 33, 34, 35, 36, 37, 38, 39]] [15, 16, 17, 18, 19, 20, 21, 22, 23, 24, 25, 26, 27, 28, 29, 30, 31, 32, 33, 34, 35, 36, 37, 38, 39, 40, 41, 42, 43, 44, 45, 46, 47, 48, 49, 50, 51, 52, 53, 54, 55] Ext.refl (fun _ _ _ => Ext.trans) (Ext.drew _) (by kernel_rfl) ?_
              apply Build.det 15 Ext.refl (by rfl) (by rfl) rfl
              case h =>   -- 0: t15 := Op.move (tmp 0)
                intro ax wx hE hR hF
                have e0 : ax.eval (.tmp 0) = .slice (some ⟨b1, o1, none⟩) len cap1 := hE.eval 0 (by rfl) rfl
                simp [go_sem, BigFrame.eval_const, BigFrame.eval_global, BigFrame.eval_func, ↓IntWalk.iteOmega, ev e0, dl, hlm, dg, dg2, dg3, hsub, hsub2, hsub3, dc]
                with_reducible rfl
              apply Build.det 16 Ext.refl (by rfl) (by rfl) rfl
              case h =>   -- 1: t16 := Op.move (tmp 7)
                intro ax wx hE hR hF
                have e7 : ax.eval (.tmp 7) = .int .i64 (j : Int) := hE.eval 7 (by rfl) rfl
                simp [go_sem, BigFrame.eval_const, BigFrame.eval_global, BigFrame.eval_func, ↓IntWalk.iteOmega, ev e7, dl, hlm, dg, dg2, dg3, hsub, hsub2, hsub3, dc]
                with_reducible rfl
              apply Build.det 17 Ext.refl (by rfl) (by rfl) rfl
              case h =>   -- 2: t17 := Op.indexAddr 41 (tmp 15) (tmp 16)
                intro ax wx hE hR hF
                have e15 : ax.eval (.tmp 15) = _ := hF 0 (det 15 _) (by decide) (.tail _ (.head _))
                have e16 : ax.eval (.tmp 16) = _ := hF 1 (det 16 _) (by decide) (.head _)
                simp [go_sem, BigFrame.eval_const, BigFrame.eval_global, BigFrame.eval_func, ↓IntWalk.iteOmega, ev e15, ev e16, dl, hlm, dg, dg2, dg3, hsub, hsub2, hsub3, dc]
                with_reducible rfl
              apply Build.det 18 Ext.refl (by rfl) (by rfl) rfl
              case h =>   -- 3: t18 := Op.load 3 (tmp 17)
                intro ax wx hE hR hF
                have e17 : ax.eval (.tmp 17) = _ := hF 2 (det 17 _) (by decide) (.head _)
                have q0 := HP1.out _ (hEx0.trans hR); have q1 := HP2.out _ (hEx0.trans hR); obtain ⟨q1, q2⟩ := q1; have qa := (hA0.ext hR).cell T; rw [lim_at T hT] at qa; have p0 := HPP.out _ (hEx0.trans hR)
                simp [go_sem, BigFrame.eval_const, BigFrame.eval_global, BigFrame.eval_func, ↓IntWalk.iteOmega, ev e17, dl, hlm, dg, dg2, dg3, hsub, hsub2, hsub3, dc, q0, q1, q2, qa, p0]
                with_reducible rfl
              apply Build.det 19 Ext.refl (by rfl) (by rfl) rfl
              case h =>   -- 4: t19 := Op.move (tmp 1)
                intro ax wx hE hR hF
                have e1 : ax.eval (.tmp 1) = .slice (some ⟨b2, o2, none⟩) len cap2 := hE.eval 1 (by rfl) rfl
                simp [go_sem, BigFrame.eval_const, BigFrame.eval_global, BigFrame.eval_func, ↓IntWalk.iteOmega, ev e1, dl, hlm, dg, dg2, dg3, hsub, hsub2, hsub3, dc]
                with_reducible rfl
              apply Build.det 20 Ext.refl (by rfl) (by rfl) rfl
              case h =>   -- 5: t20 := Op.move (tmp 7)
                intro ax wx hE hR hF
                have e7 : ax.eval (.tmp 7) = .int .i64 (j : Int) := hE.eval 7 (by rfl) rfl
                simp [go_sem, BigFrame.eval_const, BigFrame.eval_global, BigFrame.eval_func, ↓IntWalk.iteOmega, ev e7, dl, hlm, dg, dg2, dg3, hsub, hsub2, hsub3, dc]
                with_reducible rfl
              apply Build.det 21 Ext.refl (by rfl) (by rfl) rfl
              case h =>   -- 6: t21 := Op.indexAddr 42 (tmp 19) (tmp 20)
                intro ax wx hE hR hF
                have e19 : ax.eval (.tmp 19) = _ := hF 4 (det 19 _) (by decide) (.tail _ (.head _))
                have e20 : ax.eval (.tmp 20) = _ := hF 5 (det 20 _) (by decide) (.head _)
                simp [go_sem, BigFrame.eval_const, BigFrame.eval_global, BigFrame.eval_func, ↓IntWalk.iteOmega, ev e19, ev e20, dl, hlm, dg, dg2, dg3, hsub, hsub2, hsub3, dc]
                with_reducible rfl
              apply Build.det 22 Ext.refl (by rfl) (by rfl) rfl
              case h =>   -- 7: t22 := Op.load 23 (tmp 21)
                intro ax wx hE hR hF
                have e21 : ax.eval (.tmp 21) = _ := hF 6 (det 21 _) (by decide) (.head _)
                have q0 := HP1.out _ (hEx0.trans hR); have q1 := HP2.out _ (hEx0.trans hR); obtain ⟨q1, q2⟩ := q1; have qa := (hA0.ext hR).cell T; rw [lim_at T hT] at qa; have p0 := HPP.out _ (hEx0.trans hR)
                simp [go_sem, BigFrame.eval_const, BigFrame.eval_global, BigFrame.eval_func, ↓IntWalk.iteOmega, ev e21, dl, hlm, dg, dg2, dg3, hsub, hsub2, hsub3, dc, q0, q1, q2, qa, p0]
                with_reducible rfl
              apply Build.call 23 Ext.refl (by rfl) (by rfl) rfl
              case h =>
                intro ax wx hE hR hF
                have e18 : ax.eval (.tmp 18) = _ := hF 3 (det 18 _) (by decide) (mem4 (.head _))
                have e22 : ax.eval (.tmp 22) = _ := hF 7 (det 22 _) (by decide) (.head _)
                simp [go_sem, BigFrame.eval_const, BigFrame.eval_global, BigFrame.eval_func, ↓IntWalk.iteOmega, ev e18, ev e22, dl, hlm, dg, dg2, dg3, hsub, hsub2, hsub3, dc]
                with_reducible exact ⟨rfl, rfl⟩
              case hc => intro wx hR; with_reducible exact HCA.out wx
              apply Build.det 24 Ext.refl (by rfl) (by rfl) rfl
              case h =>   -- 9: t24 := Op.unOp UnOp.not 4 (tmp 23)
                intro ax wx hE hR hF
                have e23 : ax.eval (.tmp 23) = _ := hF 8 (det 23 _) (by decide) (.head _)
                simp [go_sem, BigFrame.eval_const, BigFrame.eval_global, BigFrame.eval_func, ↓IntWalk.iteOmega, ev e23, dl, hlm, dg, dg2, dg3, hsub, hsub2, hsub3, dc]
                with_reducible rfl
              apply Build.det 25 Ext.refl (by rfl) (by rfl) rfl
              case h =>   -- 10: t25 := Op.move (tmp 24)
                intro ax wx hE hR hF
                have e24 : ax.eval (.tmp 24) = _ := hF 9 (det 24 _) (by decide) (.head _)
                simp [go_sem, BigFrame.eval_const, BigFrame.eval_global, BigFrame.eval_func, ↓IntWalk.iteOmega, ev e24, dl, hlm, dg, dg2, dg3, hsub, hsub2, hsub3, dc]
                with_reducible rfl
              apply Build.detg 26 Ext.refl (by rfl) (by rfl) rfl rfl
              case h =>   -- 11: t26 := Op.move (tmp 1)
                intro ax wx hE hR hF
                have e1 : ax.eval (.tmp 1) = .slice (some ⟨b2, o2, none⟩) len cap2 := hE.eval 1 (by rfl) rfl
                have e25 : ax.eval (.tmp 25) = _ := hF 10 (det 25 _) (by decide) (.head _)
                refine ⟨e25, ?_⟩
                simp [go_sem, BigFrame.eval_const, BigFrame.eval_global, BigFrame.eval_func, ↓IntWalk.iteOmega, ev e1, ev e25, dl, hlm, dg, dg2, dg3, hsub, hsub2, hsub3, dc]
                with_reducible rfl
              apply Build.detg 27 Ext.refl (by rfl) (by rfl) rfl rfl
              case h =>   -- 12: t27 := Op.move (tmp 7)
                intro ax wx hE hR hF
                have e7 : ax.eval (.tmp 7) = .int .i64 (j : Int) := hE.eval 7 (by rfl) rfl
                have e25 : ax.eval (.tmp 25) = _ := hF 10 (det 25 _) (by decide) (.tail _ (.head _))
                refine ⟨e25, ?_⟩
                simp [go_sem, BigFrame.eval_const, BigFrame.eval_global, BigFrame.eval_func, ↓IntWalk.iteOmega, ev e7, ev e25, dl, hlm, dg, dg2, dg3, hsub, hsub2, hsub3, dc]
                with_reducible rfl
              apply Build.detg 28 Ext.refl (by rfl) (by rfl) rfl rfl
              case h =>   -- 13: t28 := Op.indexAddr 42 (tmp 26) (tmp 27)
                intro ax wx hE hR hF
                have e25 : ax.eval (.tmp 25) = _ := hF 10 (det 25 _) (by decide) (.tail _ (.tail _ (.head _)))
                have e26 : ax.eval (.tmp 26) = _ := hF 11 (det 26 _) (by decide) (.tail _ (.head _))
                have e27 : ax.eval (.tmp 27) = _ := hF 12 (det 27 _) (by decide) (.head _)
                refine ⟨e25, ?_⟩
                simp [go_sem, BigFrame.eval_const, BigFrame.eval_global, BigFrame.eval_func, ↓IntWalk.iteOmega, ev e25, ev e26, ev e27, dl, hlm, dg, dg2, dg3, hsub, hsub2, hsub3, dc]
                with_reducible rfl
              apply Build.detg 29 Ext.refl (by rfl) (by rfl) rfl rfl
              case h =>   -- 14: t29 := Op.fieldAddr 23 (tmp 28) 1
                intro ax wx hE hR hF
                have e25 : ax.eval (.tmp 25) = _ := hF 10 (det 25 _) (by decide) (.tail _ (.tail _ (.tail _ (.head _))))
                have e28 : ax.eval (.tmp 28) = _ := hF 13 (det 28 _) (by decide) (.head _)
                refine ⟨e25, ?_⟩
                simp [go_sem, BigFrame.eval_const, BigFrame.eval_global, BigFrame.eval_func, ↓IntWalk.iteOmega, ev e25, ev e28, dl, hlm, dg, dg2, dg3, hsub, hsub2, hsub3, dc]
                with_reducible rfl
              apply Build.detg 30 Ext.refl (by rfl) (by rfl) rfl rfl
              case h =>   -- 15: t30 := Op.load 3 (tmp 29)
                intro ax wx hE hR hF
                have e25 : ax.eval (.tmp 25) = _ := hF 10 (det 25 _) (by decide) (mem4 (.head _))
                have e29 : ax.eval (.tmp 29) = _ := hF 14 (det 29 _) (by decide) (.head _)
                have q0 := HP1.out _ (hEx0.trans hR); have q1 := HP2.out _ (hEx0.trans hR); obtain ⟨q1, q2⟩ := q1; have qa := (hA0.ext hR).cell T; rw [lim_at T hT] at qa; have p0 := HPP.out _ (hEx0.trans hR)
                refine ⟨e25, ?_⟩
                simp [go_sem, BigFrame.eval_const, BigFrame.eval_global, BigFrame.eval_func, ↓IntWalk.iteOmega, ev e25, ev e29, dl, hlm, dg, dg2, dg3, hsub, hsub2, hsub3, dc, q0, q1, q2, qa, p0]
                with_reducible rfl
              apply Build.detg 31 Ext.refl (by rfl) (by rfl) rfl rfl
              case h =>   -- 16: t31 := Op.move (tmp 1)
                intro ax wx hE hR hF
                have e1 : ax.eval (.tmp 1) = .slice (some ⟨b2, o2, none⟩) len cap2 := hE.eval 1 (by rfl) rfl
                have e25 : ax.eval (.tmp 25) = _ := hF 10 (det 25 _) (by decide) (mem4 (.tail _ (.head _)))
                refine ⟨e25, ?_⟩
                simp [go_sem, BigFrame.eval_const, BigFrame.eval_global, BigFrame.eval_func, ↓IntWalk.iteOmega, ev e1, ev e25, dl, hlm, dg, dg2, dg3, hsub, hsub2, hsub3, dc]
                with_reducible rfl
              apply Build.detg 32 Ext.refl (by rfl) (by rfl) rfl rfl
              case h =>   -- 17: t32 := Op.move (tmp 7)
                intro ax wx hE hR hF
                have e7 : ax.eval (.tmp 7) = .int .i64 (j : Int) := hE.eval 7 (by rfl) rfl
                have e25 : ax.eval (.tmp 25) = _ := hF 10 (det 25 _) (by decide) (mem4 (.tail _ (.tail _ (.head _))))
                refine ⟨e25, ?_⟩
                simp [go_sem, BigFrame.eval_const, BigFrame.eval_global, BigFrame.eval_func, ↓IntWalk.iteOmega, ev e7, ev e25, dl, hlm, dg, dg2, dg3, hsub, hsub2, hsub3, dc]
                with_reducible rfl
              apply Build.detg 33 Ext.refl (by rfl) (by rfl) rfl rfl
              case h =>   -- 18: t33 := Op.indexAddr 42 (tmp 31) (tmp 32)
                intro ax wx hE hR hF
                have e25 : ax.eval (.tmp 25) = _ := hF 10 (det 25 _) (by decide) (mem4 (.tail _ (.tail _ (.tail _ (.head _)))))
                have e31 : ax.eval (.tmp 31) = _ := hF 16 (det 31 _) (by decide) (.tail _ (.head _))
                have e32 : ax.eval (.tmp 32) = _ := hF 17 (det 32 _) (by decide) (.head _)
                refine ⟨e25, ?_⟩
                simp [go_sem, BigFrame.eval_const, BigFrame.eval_global, BigFrame.eval_func, ↓IntWalk.iteOmega, ev e25, ev e31, ev e32, dl, hlm, dg, dg2, dg3, hsub, hsub2, hsub3, dc]
                with_reducible rfl
              apply Build.detg 34 Ext.refl (by rfl) (by rfl) rfl rfl
              case h =>   -- 19: t34 := Op.fieldAddr 23 (tmp 33) 0
                intro ax wx hE hR hF
                have e25 : ax.eval (.tmp 25) = _ := hF 10 (det 25 _) (by decide) (mem4 (mem4 (.head _)))
                have e33 : ax.eval (.tmp 33) = _ := hF 18 (det 33 _) (by decide) (.head _)
                refine ⟨e25, ?_⟩
                simp [go_sem, BigFrame.eval_const, BigFrame.eval_global, BigFrame.eval_func, ↓IntWalk.iteOmega, ev e25, ev e33, dl, hlm, dg, dg2, dg3, hsub, hsub2, hsub3, dc]
                with_reducible rfl
              apply Build.detg 35 Ext.refl (by rfl) (by rfl) rfl rfl
              case h =>   -- 20: t35 := Op.load 3 (tmp 34)
                intro ax wx hE hR hF
                have e25 : ax.eval (.tmp 25) = _ := hF 10 (det 25 _) (by decide) (mem4 (mem4 (.tail _ (.head _))))
                have e34 : ax.eval (.tmp 34) = _ := hF 19 (det 34 _) (by decide) (.head _)
                have q0 := HP1.out _ (hEx0.trans hR); have q1 := HP2.out _ (hEx0.trans hR); obtain ⟨q1, q2⟩ := q1; have qa := (hA0.ext hR).cell T; rw [lim_at T hT] at qa; have p0 := HPP.out _ (hEx0.trans hR)
                refine ⟨e25, ?_⟩
                simp [go_sem, BigFrame.eval_const, BigFrame.eval_global, BigFrame.eval_func, ↓IntWalk.iteOmega, ev e25, ev e34, dl, hlm, dg, dg2, dg3, hsub, hsub2, hsub3, dc, q0, q1, q2, qa, p0]
                with_reducible rfl
              apply Build.detg 36 Ext.refl (by rfl) (by rfl) rfl rfl
              case h =>   -- 21: t36 := Op.indexAddr 30 (tmp 5) (tmp 35)
                intro ax wx hE hR hF
                have e5 : ax.eval (.tmp 5) = .pointer (some ⟨w.heap.size, 0, none⟩) := hE.eval 5 (by rfl) rfl
                have e25 : ax.eval (.tmp 25) = _ := hF 10 (det 25 _) (by decide) (mem4 (mem4 (.tail _ (.tail _ (.head _)))))
                have e35 : ax.eval (.tmp 35) = _ := hF 20 (det 35 _) (by decide) (.head _)
                refine ⟨e25, ?_⟩
                simp [go_sem, BigFrame.eval_const, BigFrame.eval_global, BigFrame.eval_func, ↓IntWalk.iteOmega, ev e5, ev e25, ev e35, dl, hlm, dg, dg2, dg3, hsub, hsub2, hsub3, dc]
                with_reducible rfl
              apply Build.detg 37 Ext.refl (by rfl) (by rfl) rfl rfl
              case h =>   -- 22: t37 := Op.load 3 (tmp 36)
                intro ax wx hE hR hF
                have e25 : ax.eval (.tmp 25) = _ := hF 10 (det 25 _) (by decide) (mem4 (mem4 (.tail _ (.tail _ (.tail _ (.head _))))))
                have e36 : ax.eval (.tmp 36) = _ := hF 21 (det 36 _) (by decide) (.head _)
                have q0 := HP1.out _ (hEx0.trans hR); have q1 := HP2.out _ (hEx0.trans hR); obtain ⟨q1, q2⟩ := q1; have qa := (hA0.ext hR).cell T; rw [lim_at T hT] at qa; have p0 := HPP.out _ (hEx0.trans hR)
                refine ⟨e25, ?_⟩
                simp [go_sem, BigFrame.eval_const, BigFrame.eval_global, BigFrame.eval_func, ↓IntWalk.iteOmega, ev e25, ev e36, dl, hlm, dg, dg2, dg3, hsub, hsub2, hsub3, dc, q0, q1, q2, qa, p0]
                with_reducible rfl
              apply Build.detg 38 Ext.refl (by rfl) (by rfl) rfl rfl
              case h =>   -- 23: t38 := Op.binOp BinOp.geq 3 (tmp 30) (tmp 37) 3
                intro ax wx hE hR hF
                have e25 : ax.eval (.tmp 25) = _ := hF 10 (det 25 _) (by decide) (mem4 (mem4 (mem4 (.head _))))
                have e30 : ax.eval (.tmp 30) = _ := hF 15 (det 30 _) (by decide) (mem4 (.tail _ (.tail _ (.tail _ (.head _)))))
                have e37 : ax.eval (.tmp 37) = _ := hF 22 (det 37 _) (by decide) (.head _)
                refine ⟨e25, ?_⟩
                simp [go_sem, BigFrame.eval_const, BigFrame.eval_global, BigFrame.eval_func, ↓IntWalk.iteOmega, ev e25, ev e30, ev e37, dl, hlm, dg, dg2, dg3, hsub, hsub2, hsub3, dc]
                with_reducible rfl
              apply Build.det 39 Ext.refl (by rfl) (by rfl) rfl
              case h =>   -- 24: t39 := Op.pick (tmp 25) (const (Value.bool true)) (tmp 38)
                intro ax wx hE hR hF
                have e25 : ax.eval (.tmp 25) = _ := hF 10 (det 25 _) (by decide) (mem4 (mem4 (mem4 (.tail _ (.head _)))))
                have e38 : ax.eval (.tmp 38) = _ := hF 23 (det 38 _) (by decide) (.head _)
                simp [go_sem, BigFrame.eval_const, BigFrame.eval_global, BigFrame.eval_func, ↓IntWalk.iteOmega, ev e25, ev e38, dl, hlm, dg, dg2, dg3, hsub, hsub2, hsub3, dc]
                with_reducible rfl
              apply Build.det 40 Ext.refl (by rfl) (by rfl) rfl
              case h =>   -- 25: t40 := Op.move (tmp 39)
                intro ax wx hE hR hF
                have e39 : ax.eval (.tmp 39) = _ := hF 24 (det 39 _) (by decide) (.head _)
                simp [go_sem, BigFrame.eval_const, BigFrame.eval_global, BigFrame.eval_func, ↓IntWalk.iteOmega, ev e39, dl, hlm, dg, dg2, dg3, hsub, hsub2, hsub3, dc]
                with_reducible rfl
              apply Build.detg 41 Ext.refl (by rfl) (by rfl) rfl rfl
              case h =>   -- 26: t41 := Op.move (tmp 7)
                intro ax wx hE hR hF
                have e7 : ax.eval (.tmp 7) = .int .i64 (j : Int) := hE.eval 7 (by rfl) rfl
                have e40 : ax.eval (.tmp 40) = _ := hF 25 (det 40 _) (by decide) (.head _)
                refine ⟨e40, ?_⟩
                simp [go_sem, BigFrame.eval_const, BigFrame.eval_global, BigFrame.eval_func, ↓IntWalk.iteOmega, ev e7, ev e40, dl, hlm, dg, dg2, dg3, hsub, hsub2, hsub3, dc]
                with_reducible rfl
              apply Build.detg 42 Ext.refl (by rfl) (by rfl) rfl rfl
              case h =>   -- 27: t42 := Op.binOp BinOp.gtr 3 (tmp 41) (const (Value.int IntKind.i64 0)) 3
                intro ax wx hE hR hF
                have e40 : ax.eval (.tmp 40) = _ := hF 25 (det 40 _) (by decide) (.tail _ (.head _))
                have e41 : ax.eval (.tmp 41) = _ := hF 26 (det 41 _) (by decide) (.head _)
                refine ⟨e40, ?_⟩
                simp [go_sem, BigFrame.eval_const, BigFrame.eval_global, BigFrame.eval_func, ↓IntWalk.iteOmega, ev e40, ev e41, dl, hlm, dg, dg2, dg3, hsub, hsub2, hsub3, dc]
                with_reducible rfl
              apply Build.detg 43 Ext.refl (by rfl) (by rfl) rfl rfl
              case h =>   -- 28: t43 := Op.move (tmp 42)
                intro ax wx hE hR hF
                have e40 : ax.eval (.tmp 40) = _ := hF 25 (det 40 _) (by decide) (.tail _ (.tail _ (.head _)))
                have e42 : ax.eval (.tmp 42) = _ := hF 27 (det 42 _) (by decide) (.head _)
                refine ⟨e40, ?_⟩
                simp [go_sem, BigFrame.eval_const, BigFrame.eval_global, BigFrame.eval_func, ↓IntWalk.iteOmega, ev e40, ev e42, dl, hlm, dg, dg2, dg3, hsub, hsub2, hsub3, dc]
                with_reducible rfl
              apply Build.detg 44 Ext.refl (by rfl) (by rfl) rfl rfl
              case h =>   -- 29: t44 := Op.move (tmp 0)
                intro ax wx hE hR hF
                have e0 : ax.eval (.tmp 0) = .slice (some ⟨b1, o1, none⟩) len cap1 := hE.eval 0 (by rfl) rfl
                have e43 : ax.eval (.tmp 43) = _ := hF 28 (det 43 _) (by decide) (.head _)
                refine ⟨e43, ?_⟩
                simp [go_sem, BigFrame.eval_const, BigFrame.eval_global, BigFrame.eval_func, ↓IntWalk.iteOmega, ev e0, ev e43, dl, hlm, dg, dg2, dg3, hsub, hsub2, hsub3, dc]
                with_reducible rfl
              apply Build.detg 45 Ext.refl (by rfl) (by rfl) rfl rfl
              case h =>   -- 30: t45 := Op.move (tmp 7)
                intro ax wx hE hR hF
                have e7 : ax.eval (.tmp 7) = .int .i64 (j : Int) := hE.eval 7 (by rfl) rfl
                have e43 : ax.eval (.tmp 43) = _ := hF 28 (det 43 _) (by decide) (.tail _ (.head _))
                refine ⟨e43, ?_⟩
                simp [go_sem, BigFrame.eval_const, BigFrame.eval_global, BigFrame.eval_func, ↓IntWalk.iteOmega, ev e7, ev e43, dl, hlm, dg, dg2, dg3, hsub, hsub2, hsub3, dc]
                with_reducible rfl
              apply Build.detg 46 Ext.refl (by rfl) (by rfl) rfl rfl
              case h =>   -- 31: t46 := Op.binOp BinOp.sub 3 (tmp 45) (const (Value.int IntKind.i64 1)) 3
                intro ax wx hE hR hF
                have e43 : ax.eval (.tmp 43) = _ := hF 28 (det 43 _) (by decide) (.tail _ (.tail _ (.head _)))
                have e45 : ax.eval (.tmp 45) = _ := hF 30 (det 45 _) (by decide) (.head _)
                refine ⟨e43, ?_⟩
                simp [go_sem, BigFrame.eval_const, BigFrame.eval_global, BigFrame.eval_func, ↓IntWalk.iteOmega, ev e43, ev e45, dl, hlm, dg, dg2, dg3, hsub, hsub2, hsub3, dc]
                with_reducible rfl
              apply Build.detg 47 Ext.refl (by rfl) (by rfl) rfl rfl
              case h =>   -- 32: t47 := Op.indexAddr 41 (tmp 44) (tmp 46)
                intro ax wx hE hR hF
                have e43 : ax.eval (.tmp 43) = _ := hF 28 (det 43 _) (by decide) (.tail _ (.tail _ (.tail _ (.head _))))
                have e44 : ax.eval (.tmp 44) = _ := hF 29 (det 44 _) (by decide) (.tail _ (.tail _ (.head _)))
                have e46 : ax.eval (.tmp 46) = _ := hF 31 (det 46 _) (by decide) (.head _)
                refine ⟨e43, ?_⟩
                simp [go_sem, BigFrame.eval_const, BigFrame.eval_global, BigFrame.eval_func, ↓IntWalk.iteOmega, ev e43, ev e44, ev e46, dl, hlm, dg, dg2, dg3, hsub, hsub2, hsub3, dc]
                with_reducible rfl
              apply Build.detg 48 Ext.refl (by rfl) (by rfl) rfl rfl
              case h =>   -- 33: t48 := Op.load 3 (tmp 47)
                intro ax wx hE hR hF
                have e43 : ax.eval (.tmp 43) = _ := hF 28 (det 43 _) (by decide) (mem4 (.head _))
                have e47 : ax.eval (.tmp 47) = _ := hF 32 (det 47 _) (by decide) (.head _)
                have q0 := HP1.out _ (hEx0.trans hR); have q1 := HP2.out _ (hEx0.trans hR); obtain ⟨q1, q2⟩ := q1; have qa := (hA0.ext hR).cell T; rw [lim_at T hT] at qa; have p0 := HPP.out _ (hEx0.trans hR)
                refine ⟨e43, ?_⟩
                simp [go_sem, BigFrame.eval_const, BigFrame.eval_global, BigFrame.eval_func, ↓IntWalk.iteOmega, ev e43, ev e47, dl, hlm, dg, dg2, dg3, hsub, hsub2, hsub3, dc, q0, q1, q2, qa, p0]
                with_reducible rfl
              apply Build.detg 49 Ext.refl (by rfl) (by rfl) rfl rfl
              case h =>   -- 34: t49 := Op.move (tmp 0)
                intro ax wx hE hR hF
                have e0 : ax.eval (.tmp 0) = .slice (some ⟨b1, o1, none⟩) len cap1 := hE.eval 0 (by rfl) rfl
                have e43 : ax.eval (.tmp 43) = _ := hF 28 (det 43 _) (by decide) (mem4 (.tail _ (.head _)))
                refine ⟨e43, ?_⟩
                simp [go_sem, BigFrame.eval_const, BigFrame.eval_global, BigFrame.eval_func, ↓IntWalk.iteOmega, ev e0, ev e43, dl, hlm, dg, dg2, dg3, hsub, hsub2, hsub3, dc]
                with_reducible rfl
              apply Build.detg 50 Ext.refl (by rfl) (by rfl) rfl rfl
              case h =>   -- 35: t50 := Op.move (tmp 7)
                intro ax wx hE hR hF
                have e7 : ax.eval (.tmp 7) = .int .i64 (j : Int) := hE.eval 7 (by rfl) rfl
                have e43 : ax.eval (.tmp 43) = _ := hF 28 (det 43 _) (by decide) (mem4 (.tail _ (.tail _ (.head _))))
                refine ⟨e43, ?_⟩
                simp [go_sem, BigFrame.eval_const, BigFrame.eval_global, BigFrame.eval_func, ↓IntWalk.iteOmega, ev e7, ev e43, dl, hlm, dg, dg2, dg3, hsub, hsub2, hsub3, dc]
                with_reducible rfl
              apply Build.detg 51 Ext.refl (by rfl) (by rfl) rfl rfl
              case h =>   -- 36: t51 := Op.indexAddr 41 (tmp 49) (tmp 50)
                intro ax wx hE hR hF
                have e43 : ax.eval (.tmp 43) = _ := hF 28 (det 43 _) (by decide) (mem4 (.tail _ (.tail _ (.tail _ (.head _)))))
                have e49 : ax.eval (.tmp 49) = _ := hF 34 (det 49 _) (by decide) (.tail _ (.head _))
                have e50 : ax.eval (.tmp 50) = _ := hF 35 (det 50 _) (by decide) (.head _)
                refine ⟨e43, ?_⟩
                simp [go_sem, BigFrame.eval_const, BigFrame.eval_global, BigFrame.eval_func, ↓IntWalk.iteOmega, ev e43, ev e49, ev e50, dl, hlm, dg, dg2, dg3, hsub, hsub2, hsub3, dc]
                with_reducible rfl
              apply Build.detg 52 Ext.refl (by rfl) (by rfl) rfl rfl
              case h =>   -- 37: t52 := Op.load 3 (tmp 51)
                intro ax wx hE hR hF
                have e43 : ax.eval (.tmp 43) = _ := hF 28 (det 43 _) (by decide) (mem4 (mem4 (.head _)))
                have e51 : ax.eval (.tmp 51) = _ := hF 36 (det 51 _) (by decide) (.head _)
                have q0 := HP1.out _ (hEx0.trans hR); have q1 := HP2.out _ (hEx0.trans hR); obtain ⟨q1, q2⟩ := q1; have qa := (hA0.ext hR).cell T; rw [lim_at T hT] at qa; have p0 := HPP.out _ (hEx0.trans hR)
                refine ⟨e43, ?_⟩
                simp [go_sem, BigFrame.eval_const, BigFrame.eval_global, BigFrame.eval_func, ↓IntWalk.iteOmega, ev e43, ev e51, dl, hlm, dg, dg2, dg3, hsub, hsub2, hsub3, dc, q0, q1, q2, qa, p0]
                with_reducible rfl
              apply Build.detg 53 Ext.refl (by rfl) (by rfl) rfl rfl
              case h =>   -- 38: t53 := Op.binOp BinOp.geq 3 (tmp 48) (tmp 52) 3
                intro ax wx hE hR hF
                have e43 : ax.eval (.tmp 43) = _ := hF 28 (det 43 _) (by decide) (mem4 (mem4 (.tail _ (.head _))))
                have e48 : ax.eval (.tmp 48) = _ := hF 33 (det 48 _) (by decide) (mem4 (.head _))
                have e52 : ax.eval (.tmp 52) = _ := hF 37 (det 52 _) (by decide) (.head _)
                refine ⟨e43, ?_⟩
                simp [go_sem, BigFrame.eval_const, BigFrame.eval_global, BigFrame.eval_func, ↓IntWalk.iteOmega, ev e43, ev e48, ev e52, dl, hlm, dg, dg2, dg3, hsub, hsub2, hsub3, dc]
                with_reducible rfl
              apply Build.detg 54 Ext.refl (by rfl) (by rfl) rfl rfl
              case h =>   -- 39: t54 := Op.pick (tmp 43) (tmp 53) (const (Value.bool false))
                intro ax wx hE hR hF
                have e40 : ax.eval (.tmp 40) = _ := hF 25 (det 40 _) (by decide) (mem4 (mem4 (mem4 (.tail _ (.head _)))))
                have e43 : ax.eval (.tmp 43) = _ := hF 28 (det 43 _) (by decide) (mem4 (mem4 (.tail _ (.tail _ (.head _)))))
                have e53 : ax.eval (.tmp 53) = _ := hF 38 (det 53 _) (by decide) (.head _)
                refine ⟨e40, ?_⟩
                simp [go_sem, BigFrame.eval_const, BigFrame.eval_global, BigFrame.eval_func, ↓IntWalk.iteOmega, ev e40, ev e43, ev e53, dl, hlm, dg, dg2, dg3, hsub, hsub2, hsub3, dc]
                with_reducible rfl
              apply Build.det 55 Ext.refl (by rfl) (by rfl) rfl
              case h =>   -- 40: t55 := Op.pick (tmp 40) (const (Value.bool true)) (tmp 54)
                intro ax wx hE hR hF
                have e40 : ax.eval (.tmp 40) = _ := hF 25 (det 40 _) (by decide) (mem4 (mem4 (mem4 (.tail _ (.tail _ (.head _))))))
                have e54 : ax.eval (.tmp 54) = _ := hF 39 (det 54 _) (by decide) (.head _)
                simp [go_sem, BigFrame.eval_const, BigFrame.eval_global, BigFrame.eval_func, ↓IntWalk.iteOmega, ev e40, ev e54, dl, hlm, dg, dg2, dg3, hsub, hsub2, hsub3, dc]
                with_reducible rfl
              apply Build.stop
              refine ⟨by kernel_rfl, .inl ⟨rfl, ?_⟩⟩
              intro ax w2 hE R2 hF
              have e15 : ax.eval (.tmp 15) = _ := hF 0 (det 15 _) (mem16 (mem16 (mem4 (mem4 (.head _)))))
              have e16 : ax.eval (.tmp 16) = _ := hF 1 (det 16 _) (mem16 (mem16 (mem4 (.tail _ (.tail _ (.tail _ (.head _)))))))
              have e17 : ax.eval (.tmp 17) = _ := hF 2 (det 17 _) (mem16 (mem16 (mem4 (.tail _ (.tail _ (.head _))))))
              have e18 : ax.eval (.tmp 18) = _ := hF 3 (det 18 _) (mem16 (mem16 (mem4 (.tail _ (.head _)))))
              have e19 : ax.eval (.tmp 19) = _ := hF 4 (det 19 _) (mem16 (mem16 (mem4 (.head _))))
              have e20 : ax.eval (.tmp 20) = _ := hF 5 (det 20 _) (mem16 (mem16 (.tail _ (.tail _ (.tail _ (.head _))))))
              have e21 : ax.eval (.tmp 21) = _ := hF 6 (det 21 _) (mem16 (mem16 (.tail _ (.tail _ (.head _)))))
              have e22 : ax.eval (.tmp 22) = _ := hF 7 (det 22 _) (mem16 (mem16 (.tail _ (.head _))))
              have e23 : ax.eval (.tmp 23) = _ := hF 8 (det 23 _) (mem16 (mem16 (.head _)))
              have e24 : ax.eval (.tmp 24) = _ := hF 9 (det 24 _) (mem16 (mem4 (mem4 (mem4 (.tail _ (.tail _ (.tail _ (.head _))))))))
              have e25 : ax.eval (.tmp 25) = _ := hF 10 (det 25 _) (mem16 (mem4 (mem4 (mem4 (.tail _ (.tail _ (.head _)))))))
              have e26 : ax.eval (.tmp 26) = _ := hF 11 (det 26 _) (mem16 (mem4 (mem4 (mem4 (.tail _ (.head _))))))
              have e27 : ax.eval (.tmp 27) = _ := hF 12 (det 27 _) (mem16 (mem4 (mem4 (mem4 (.head _)))))
              have e28 : ax.eval (.tmp 28) = _ := hF 13 (det 28 _) (mem16 (mem4 (mem4 (.tail _ (.tail _ (.tail _ (.head _)))))))
              have e29 : ax.eval (.tmp 29) = _ := hF 14 (det 29 _) (mem16 (mem4 (mem4 (.tail _ (.tail _ (.head _))))))
              have e30 : ax.eval (.tmp 30) = _ := hF 15 (det 30 _) (mem16 (mem4 (mem4 (.tail _ (.head _)))))
              have e31 : ax.eval (.tmp 31) = _ := hF 16 (det 31 _) (mem16 (mem4 (mem4 (.head _))))
              have e32 : ax.eval (.tmp 32) = _ := hF 17 (det 32 _) (mem16 (mem4 (.tail _ (.tail _ (.tail _ (.head _))))))
              have e33 : ax.eval (.tmp 33) = _ := hF 18 (det 33 _) (mem16 (mem4 (.tail _ (.tail _ (.head _)))))
              have e34 : ax.eval (.tmp 34) = _ := hF 19 (det 34 _) (mem16 (mem4 (.tail _ (.head _))))
              have e35 : ax.eval (.tmp 35) = _ := hF 20 (det 35 _) (mem16 (mem4 (.head _)))
              have e36 : ax.eval (.tmp 36) = _ := hF 21 (det 36 _) (mem16 (.tail _ (.tail _ (.tail _ (.head _)))))
              have e37 : ax.eval (.tmp 37) = _ := hF 22 (det 37 _) (mem16 (.tail _ (.tail _ (.head _))))
              have e38 : ax.eval (.tmp 38) = _ := hF 23 (det 38 _) (mem16 (.tail _ (.head _)))
              have e39 : ax.eval (.tmp 39) = _ := hF 24 (det 39 _) (mem16 (.head _))
              have e40 : ax.eval (.tmp 40) = _ := hF 25 (det 40 _) (mem4 (mem4 (mem4 (.tail _ (.tail _ (.tail _ (.head _)))))))
              have e41 : ax.eval (.tmp 41) = _ := hF 26 (det 41 _) (mem4 (mem4 (mem4 (.tail _ (.tail _ (.head _))))))
              have e42 : ax.eval (.tmp 42) = _ := hF 27 (det 42 _) (mem4 (mem4 (mem4 (.tail _ (.head _)))))
              have e43 : ax.eval (.tmp 43) = _ := hF 28 (det 43 _) (mem4 (mem4 (mem4 (.head _))))
              have e44 : ax.eval (.tmp 44) = _ := hF 29 (det 44 _) (mem4 (mem4 (.tail _ (.tail _ (.tail _ (.head _))))))
              have e45 : ax.eval (.tmp 45) = _ := hF 30 (det 45 _) (mem4 (mem4 (.tail _ (.tail _ (.head _)))))
              have e46 : ax.eval (.tmp 46) = _ := hF 31 (det 46 _) (mem4 (mem4 (.tail _ (.head _))))
              have e47 : ax.eval (.tmp 47) = _ := hF 32 (det 47 _) (mem4 (mem4 (.head _)))
              have e48 : ax.eval (.tmp 48) = _ := hF 33 (det 48 _) (mem4 (.tail _ (.tail _ (.tail _ (.head _)))))
              have e49 : ax.eval (.tmp 49) = _ := hF 34 (det 49 _) (mem4 (.tail _ (.tail _ (.head _))))
              have e50 : ax.eval (.tmp 50) = _ := hF 35 (det 50 _) (mem4 (.tail _ (.head _)))
              have e51 : ax.eval (.tmp 51) = _ := hF 36 (det 51 _) (mem4 (.head _))
              have e52 : ax.eval (.tmp 52) = _ := hF 37 (det 52 _) (.tail _ (.tail _ (.tail _ (.head _))))
              have e53 : ax.eval (.tmp 53) = _ := hF 38 (det 53 _) (.tail _ (.tail _ (.head _)))
              have e54 : ax.eval (.tmp 54) = _ := hF 39 (det 54 _) (.tail _ (.head _))
              have e55 : ax.eval (.tmp 55) = _ := hF 40 (det 55 _) (.head _)
              rw [AllEq.frame (D := [15, 16, 17, 18, 19, 20, 21, 22, 23, 24, 25, 26, 27, 28, 29, 30, 31, 32, 33, 34, 35, 36, 37, 38, 39, 40, 41, 42, 43, 44, 45, 46, 47, 48, 49, 50, 51, 52, 53, 54, 55]) (AllEq.cons e15 (AllEq.cons e16 (AllEq.cons e17 (AllEq.cons e18 (AllEq.cons e19 (AllEq.cons e20 (AllEq.cons e21 (AllEq.cons e22 (AllEq.cons e23 (AllEq.cons e24 (AllEq.cons e25 (AllEq.cons e26 (AllEq.cons e27 (AllEq.cons e28 (AllEq.cons e29 (AllEq.cons e30 (AllEq.cons e31 (AllEq.cons e32 (AllEq.cons e33 (AllEq.cons e34 (AllEq.cons e35 (AllEq.cons e36 (AllEq.cons e37 (AllEq.cons e38 (AllEq.cons e39 (AllEq.cons e40 (AllEq.cons e41 (AllEq.cons e42 (AllEq.cons e43 (AllEq.cons e44 (AllEq.cons e45 (AllEq.cons e46 (AllEq.cons e47 (AllEq.cons e48 (AllEq.cons e49 (AllEq.cons e50 (AllEq.cons e51 (AllEq.cons e52 (AllEq.cons e53 (AllEq.cons e54 (AllEq.cons e55 (AllEq.nil)))))))))))))))))))))))))))))))))))))))))) hE rfl]
              clear hF hE e15 e16 e17 e18 e19 e20 e21 e22 e23 e24 e25 e26 e27 e28 e29 e30 e31 e32 e33 e34 e35 e36 e37 e38 e39 e40 e41 e42 e43 e44 e45 e46 e47 e48 e49 e50 e51 e52 e53 e54 e55
              simp only [List.foldl_cons, List.foldl_nil, Act.put, List.setIfInBounds_toArray, List.set_cons_succ, List.set_cons_zero]
              have hEx := hEx0.trans R2
              have hG : Hid (GB = false) := HB.out HBAD
              go_wp2_with fail
              go_ret
              exact ⟨by rw [hG.out] <;> rfl, hEx⟩
        · have dl : decide (lm ≤ s) = true := by rw [decide_eq_true_iff]; omega
          have HBAD : ¬ okP L s0 s1 j := fun h => by have h1 := (HOKE.out h).2.1; rw [HLM.out] at h1; omega
          clear hl
          refine wp_typed (R := Ext) (w0 := wr) [[], [], [0, 1], [0, 1, 2], [], [], [4, 5], [4, 5, 6], [0, 1, 2, 3, 4, 5, 6, 7], [0, 1, 2, 3, 4, 5, 6, 7, 8], [0, 1, 2, 3, 4, 5, 6, 7, 8, 9], [0, 1, 2, 3, 4, 5, 6, 7, 8, 9, 10], [0, 1, 2, 3, 4, 5, 6, 7, 8, 9, 10], [0, 1, 2, 3, 4, 5, 6, 7, 8, 9, 10, 11, 12], [0, 1, 2, 3, 4, 5, 6, 7, 8, 9, 10, 11, 12, 13], [0, 1, 2, 3, 4, 5, 6, 7, 8, 9, 10, 11, 12, 13, 14], [0, 1, 2, 3, 4, 5, 6, 7, 8, 9, 10], [0, 1, 2, 3, 4, 5, 6, 7, 8, 9, 10], [0, 1, 2, 3, 4, 5, 6, 7, 8, 9, 10, 16, 17], [0, 1, 2, 3, 4, 5, 6, 7, 8, 9, 10, 16, 17, 18], [0, 1, 2, 3, 4, 5, 6, 7, 8, 9, 10, 16, 17, 18, 19], [0, 1, 2, 3, 4, 5, 6, 7, 8, 9, 10, 16, 17, 18, 19, 20], [0, 1, 2, 3, 4, 5, 6, 7, 8, 9, 10, 16, 17, 18, 19, 20, 21], [0, 1, 2, 3, 4, 5, 6, 7, 8, 9, 10, 11, 12, 13, 14, 15, 16, 17, 18, 19, 20, 21, 22], [0, 1, 2, 3, 4, 5, 6, 7, 8, 9, 10, 11, 12, 13, 14, 15, 16, 17, 18, 19, 20, 21, 22, 23], [0, 1, 2, 3, 4, 5, 6, 7, 8, 9, 10, 11, 12, 13, 14, 15, 16, 17, 18, 19, 20, 21, 22, 23, 24], [0, 1, 2, 3, 4, 5, 6, 7, 8, 9, 10, 11, 12, 13, 14, 15, 16, 17, 18, 19, 20, 21, 22, 23, 24, 25], [0, 1, 2, 3, 4, 5, 6, 7, 8, 9, 10, 11, 12, 13, 14, 15, 16, 17, 18, 19, 20, 21, 22, 23, 24, 25, 26], [0, 1, 2, 3, 4, 5, 6, 7, 8, 9, 10, 11, 12, 13, 14, 15, 16, 17, 18, 19, 20, 21, 22, 23, 24, 25, 26, 27], [0, 1, 2, 3, 4, 5, 6, 7, 8, 9, 10, 11, 12, 13, 14, 15, 16, 17, 18, 19, 20, 21, 22, 23, 24, 25, 26, 27, 28], [0, 1, 2, 3, 4, 5, 6, 7, 8, 9, 10, 11, 12, 13, 14, 15, 16, 17, 18, 19, 20, 21, 22, 23, 24, 25, 26, 27, 28], [0, 1, 2, 3, 4, 5, 6, 7, 8, 9, 10, 11, 12, 13, 14, 15, 16, 17, 18, 19, 20, 21, 22, 23, 24, 25, 26, 27, 28, 30], [0, 1, 2, 3, 4, 5, 6, 7, 8, 9, 10, 11, 12, 13, 14, 15, 16, 17, 18, 19, 20, 21, 22, 23, 24, 25, 26, 27, 28, 29, 30, 31], [0, 1, 2, 3, 4, 5, 6, 7, 8, 9, 10, 11, 12, 13, 14, 15, 16, 17, 18, 19, 20, 21, 22, 23, 24, 25, 26, 27, 28, 29, 30, 31, 32], [0, 1, 2, 3, 4, 5, 6, 7, 8, 9, 10, 11, 12, 13, 14, 15, 16, 17, 18, 19, 20, 21, 22, 23, 24, 25, 26, 27, 28], [0, 1, 2, 3, 4, 5, 6, 7, 8, 9, 10, 11, 12, 13, 14, 15, 16, 17, 18, 19, 20, 21, 22, 23, 24, 25, 26, 27, 28], [0, 1, 2, 3, 4, 5, 6, 7, 8, 9, 10, 11, 12, 13, 14, 15, 16, 17, 18, 19, 20, 21, 22, 23, 24, 25, 26, 27, 28, 34, 35], [0, 1, 2, 3, 4, 5, 6, 7, 8, 9, 10, 11, 12, 13, 14, 15, 16, 17, 18, 19, 20, 21, 22, 23, 24, 25, 26, 27, 28, 34, 35, 36], [0, 1, 2, 3, 4, 5, 6, 7, 8, 9, 10, 11, 12, 13, 14, 15, 16, 17, 18, 19, 20, 21, 22, 23, 24, 25, 26, 27, 28, 29, 30, 31, 32, 33, 34, 35, 36, 37], [0, 1, 2, 3, 4, 5, 6, 7, 8, 9, 10, 11, 12, 13, 14, 15, 16, 17, 18, 19, 20, 21, 22, 23, 24, 25, 26, 27, 28, 29, 30, 31, 32, 33, 34, 35, 36, 37, 38], [0, 1, 2, 3, 4, 5, 6, 7, 8, 9, 10, 11, 12, 13, 14, 15, 16, 17, 18, 19, 20, 21, 22, 23, 24, 25, 26, 27, 28, 29, 30, 31, 32, 33, 34, 35, 36, 37, 38, 39]] [15, 16, 17, 18, 19, 20, 21, 22, 23, 24, 25, 26, 27, 28, 29, 30, 31, 32, 33, 34, 35, 36, 37, 38, 39, 40, 41, 42, 43, 44, 45, 46, 47, 48, 49, 50, 51, 52, 53, 54, 55] Ext.refl (fun _ _ _ => Ext.trans) (Ext.drew _) (by kernel_rfl) ?_
          apply Build.det 15 Ext.refl (by rfl) (by rfl) rfl
          case h =>   -- 0: t15 := Op.move (tmp 0)
            intro ax wx hE hR hF
            have e0 : ax.eval (.tmp 0) = .slice (some ⟨b1, o1, none⟩) len cap1 := hE.eval 0 (by rfl) rfl
            simp [go_sem, BigFrame.eval_const, BigFrame.eval_global, BigFrame.eval_func, ↓IntWalk.iteOmega, ev e0, dl, hlm]
            with_reducible rfl
          apply Build.det 16 Ext.refl (by rfl) (by rfl) rfl
          case h =>   -- 1: t16 := Op.move (tmp 7)
            intro ax wx hE hR hF
            have e7 : ax.eval (.tmp 7) = .int .i64 (j : Int) := hE.eval 7 (by rfl) rfl
            simp [go_sem, BigFrame.eval_const, BigFrame.eval_global, BigFrame.eval_func, ↓IntWalk.iteOmega, ev e7, dl, hlm]
            with_reducible rfl
          apply Build.det 17 Ext.refl (by rfl) (by rfl) rfl
          case h =>   -- 2: t17 := Op.indexAddr 41 (tmp 15) (tmp 16)
            intro ax wx hE hR hF
            have e15 : ax.eval (.tmp 15) = _ := hF 0 (det 15 _) (by decide) (.tail _ (.head _))
            have e16 : ax.eval (.tmp 16) = _ := hF 1 (det 16 _) (by decide) (.head _)
            simp [go_sem, BigFrame.eval_const, BigFrame.eval_global, BigFrame.eval_func, ↓IntWalk.iteOmega, ev e15, ev e16, dl, hlm]
            with_reducible rfl
          apply Build.det 18 Ext.refl (by rfl) (by rfl) rfl
          case h =>   -- 3: t18 := Op.load 3 (tmp 17)
            intro ax wx hE hR hF
            have e17 : ax.eval (.tmp 17) = _ := hF 2 (det 17 _) (by decide) (.head _)
            have q0 := HP1.out _ (hEx0.trans hR); have q1 := HP2.out _ (hEx0.trans hR); obtain ⟨q1, q2⟩ := q1; have qa := (hA0.ext hR).cell T; rw [lim_at T hT] at qa
            simp [go_sem, BigFrame.eval_const, BigFrame.eval_global, BigFrame.eval_func, ↓IntWalk.iteOmega, ev e17, dl, hlm, q0, q1, q2, qa]
            with_reducible rfl
          apply Build.det 19 Ext.refl (by rfl) (by rfl) rfl
          case h =>   -- 4: t19 := Op.move (tmp 1)
            intro ax wx hE hR hF
            have e1 : ax.eval (.tmp 1) = .slice (some ⟨b2, o2, none⟩) len cap2 := hE.eval 1 (by rfl) rfl
            simp [go_sem, BigFrame.eval_const, BigFrame.eval_global, BigFrame.eval_func, ↓IntWalk.iteOmega, ev e1, dl, hlm]
            with_reducible rfl
          apply Build.det 20 Ext.refl (by rfl) (by rfl) rfl
          case h =>   -- 5: t20 := Op.move (tmp 7)
            intro ax wx hE hR hF
            have e7 : ax.eval (.tmp 7) = .int .i64 (j : Int) := hE.eval 7 (by rfl) rfl
            simp [go_sem, BigFrame.eval_const, BigFrame.eval_global, BigFrame.eval_func, ↓IntWalk.iteOmega, ev e7, dl, hlm]
            with_reducible rfl
          apply Build.det 21 Ext.refl (by rfl) (by rfl) rfl
          case h =>   -- 6: t21 := Op.indexAddr 42 (tmp 19) (tmp 20)
            intro ax wx hE hR hF
            have e19 : ax.eval (.tmp 19) = _ := hF 4 (det 19 _) (by decide) (.tail _ (.head _))
            have e20 : ax.eval (.tmp 20) = _ := hF 5 (det 20 _) (by decide) (.head _)
            simp [go_sem, BigFrame.eval_const, BigFrame.eval_global, BigFrame.eval_func, ↓IntWalk.iteOmega, ev e19, ev e20, dl, hlm]
            with_reducible rfl
          apply Build.det 22 Ext.refl (by rfl) (by rfl) rfl
          case h =>   -- 7: t22 := Op.load 23 (tmp 21)
            intro ax wx hE hR hF
            have e21 : ax.eval (.tmp 21) = _ := hF 6 (det 21 _) (by decide) (.head _)
            have q0 := HP1.out _ (hEx0.trans hR); have q1 := HP2.out _ (hEx0.trans hR); obtain ⟨q1, q2⟩ := q1; have qa := (hA0.ext hR).cell T; rw [lim_at T hT] at qa
            simp [go_sem, BigFrame.eval_const, BigFrame.eval_global, BigFrame.eval_func, ↓IntWalk.iteOmega, ev e21, dl, hlm, q0, q1, q2, qa]
            with_reducible rfl
          apply Build.call 23 Ext.refl (by rfl) (by rfl) rfl
          case h =>
            intro ax wx hE hR hF
            have e18 : ax.eval (.tmp 18) = _ := hF 3 (det 18 _) (by decide) (mem4 (.head _))
            have e22 : ax.eval (.tmp 22) = _ := hF 7 (det 22 _) (by decide) (.head _)
            simp [go_sem, BigFrame.eval_const, BigFrame.eval_global, BigFrame.eval_func, ↓IntWalk.iteOmega, ev e18, ev e22, dl, hlm]
            with_reducible exact ⟨rfl, rfl⟩
          case hc => intro wx hR; with_reducible exact HCA.out wx
          apply Build.det 24 Ext.refl (by rfl) (by rfl) rfl
          case h =>   -- 9: t24 := Op.unOp UnOp.not 4 (tmp 23)
            intro ax wx hE hR hF
            have e23 : ax.eval (.tmp 23) = _ := hF 8 (det 23 _) (by decide) (.head _)
            simp [go_sem, BigFrame.eval_const, BigFrame.eval_global, BigFrame.eval_func, ↓IntWalk.iteOmega, ev e23, dl, hlm]
            with_reducible rfl
          apply Build.det 25 Ext.refl (by rfl) (by rfl) rfl
          case h =>   -- 10: t25 := Op.move (tmp 24)
            intro ax wx hE hR hF
            have e24 : ax.eval (.tmp 24) = _ := hF 9 (det 24 _) (by decide) (.head _)
            simp [go_sem, BigFrame.eval_const, BigFrame.eval_global, BigFrame.eval_func, ↓IntWalk.iteOmega, ev e24, dl, hlm]
            with_reducible rfl
          apply Build.detg 26 Ext.refl (by rfl) (by rfl) rfl rfl
          case h =>   -- 11: t26 := Op.move (tmp 1)
            intro ax wx hE hR hF
            have e1 : ax.eval (.tmp 1) = .slice (some ⟨b2, o2, none⟩) len cap2 := hE.eval 1 (by rfl) rfl
            have e25 : ax.eval (.tmp 25) = _ := hF 10 (det 25 _) (by decide) (.head _)
            refine ⟨e25, ?_⟩
            simp [go_sem, BigFrame.eval_const, BigFrame.eval_global, BigFrame.eval_func, ↓IntWalk.iteOmega, ev e1, ev e25, dl, hlm]
            with_reducible rfl
          apply Build.detg 27 Ext.refl (by rfl) (by rfl) rfl rfl
          case h =>   -- 12: t27 := Op.move (tmp 7)
            intro ax wx hE hR hF
            have e7 : ax.eval (.tmp 7) = .int .i64 (j : Int) := hE.eval 7 (by rfl) rfl
            have e25 : ax.eval (.tmp 25) = _ := hF 10 (det 25 _) (by decide) (.tail _ (.head _))
            refine ⟨e25, ?_⟩
            simp [go_sem, BigFrame.eval_const, BigFrame.eval_global, BigFrame.eval_func, ↓IntWalk.iteOmega, ev e7, ev e25, dl, hlm]
            with_reducible rfl
          apply Build.detg 28 Ext.refl (by rfl) (by rfl) rfl rfl
          case h =>   -- 13: t28 := Op.indexAddr 42 (tmp 26) (tmp 27)
            intro ax wx hE hR hF
            have e25 : ax.eval (.tmp 25) = _ := hF 10 (det 25 _) (by decide) (.tail _ (.tail _ (.head _)))
            have e26 : ax.eval (.tmp 26) = _ := hF 11 (det 26 _) (by decide) (.tail _ (.head _))
            have e27 : ax.eval (.tmp 27) = _ := hF 12 (det 27 _) (by decide) (.head _)
            refine ⟨e25, ?_⟩
            simp [go_sem, BigFrame.eval_const, BigFrame.eval_global, BigFrame.eval_func, ↓IntWalk.iteOmega, ev e25, ev e26, ev e27, dl, hlm]
            with_reducible rfl
          apply Build.detg 29 Ext.refl (by rfl) (by rfl) rfl rfl
          case h =>   -- 14: t29 := Op.fieldAddr 23 (tmp 28) 1
            intro ax wx hE hR hF
            have e25 : ax.eval (.tmp 25) = _ := hF 10 (det 25 _) (by decide) (.tail _ (.tail _ (.tail _ (.head _))))
            have e28 : ax.eval (.tmp 28) = _ := hF 13 (det 28 _) (by decide) (.head _)
            refine ⟨e25, ?_⟩
            simp [go_sem, BigFrame.eval_const, BigFrame.eval_global, BigFrame.eval_func, ↓IntWalk.iteOmega, ev e25, ev e28, dl, hlm]
            with_reducible rfl
          apply Build.detg 30 Ext.refl (by rfl) (by rfl) rfl rfl
          case h =>   -- 15: t30 := Op.load 3 (tmp 29)
            intro ax wx hE hR hF
            have e25 : ax.eval (.tmp 25) = _ := hF 10 (det 25 _) (by decide) (mem4 (.head _))
            have e29 : ax.eval (.tmp 29) = _ := hF 14 (det 29 _) (by decide) (.head _)
            have q0 := HP1.out _ (hEx0.trans hR); have q1 := HP2.out _ (hEx0.trans hR); obtain ⟨q1, q2⟩ := q1; have qa := (hA0.ext hR).cell T; rw [lim_at T hT] at qa
            refine ⟨e25, ?_⟩
            simp [go_sem, BigFrame.eval_const, BigFrame.eval_global, BigFrame.eval_func, ↓IntWalk.iteOmega, ev e25, ev e29, dl, hlm, q0, q1, q2, qa]
            with_reducible rfl
          apply Build.detg 31 Ext.refl (by rfl) (by rfl) rfl rfl
          case h =>   -- 16: t31 := Op.move (tmp 1)
            intro ax wx hE hR hF
            have e1 : ax.eval (.tmp 1) = .slice (some ⟨b2, o2, none⟩) len cap2 := hE.eval 1 (by rfl) rfl
            have e25 : ax.eval (.tmp 25) = _ := hF 10 (det 25 _) (by decide) (mem4 (.tail _ (.head _)))
            refine ⟨e25, ?_⟩
            simp [go_sem, BigFrame.eval_const, BigFrame.eval_global, BigFrame.eval_func, ↓IntWalk.iteOmega, ev e1, ev e25, dl, hlm]
            with_reducible rfl
          apply Build.detg 32 Ext.refl (by rfl) (by rfl) rfl rfl
          case h =>   -- 17: t32 := Op.move (tmp 7)
            intro ax wx hE hR hF
            have e7 : ax.eval (.tmp 7) = .int .i64 (j : Int) := hE.eval 7 (by rfl) rfl
            have e25 : ax.eval (.tmp 25) = _ := hF 10 (det 25 _) (by decide) (mem4 (.tail _ (.tail _ (.head _))))
            refine ⟨e25, ?_⟩
            simp [go_sem, BigFrame.eval_const, BigFrame.eval_global, BigFrame.eval_func, ↓IntWalk.iteOmega, ev e7, ev e25, dl, hlm]
            with_reducible rfl
          apply Build.detg 33 Ext.refl (by rfl) (by rfl) rfl rfl
          case h =>   -- 18: t33 := Op.indexAddr 42 (tmp 31) (tmp 32)
            intro ax wx hE hR hF
            have e25 : ax.eval (.tmp 25) = _ := hF 10 (det 25 _) (by decide) (mem4 (.tail _ (.tail _ (.tail _ (.head _)))))
            have e31 : ax.eval (.tmp 31) = _ := hF 16 (det 31 _) (by decide) (.tail _ (.head _))
            have e32 : ax.eval (.tmp 32) = _ := hF 17 (det 32 _) (by decide) (.head _)
            refine ⟨e25, ?_⟩
            simp [go_sem, BigFrame.eval_const, BigFrame.eval_global, BigFrame.eval_func, ↓IntWalk.iteOmega, ev e25, ev e31, ev e32, dl, hlm]
            with_reducible rfl
          apply Build.detg 34 Ext.refl (by rfl) (by rfl) rfl rfl
          case h =>   -- 19: t34 := Op.fieldAddr 23 (tmp 33) 0
            intro ax wx hE hR hF
            have e25 : ax.eval (.tmp 25) = _ := hF 10 (det 25 _) (by decide) (mem4 (mem4 (.head _)))
            have e33 : ax.eval (.tmp 33) = _ := hF 18 (det 33 _) (by decide) (.head _)
            refine ⟨e25, ?_⟩
            simp [go_sem, BigFrame.eval_const, BigFrame.eval_global, BigFrame.eval_func, ↓IntWalk.iteOmega, ev e25, ev e33, dl, hlm]
            with_reducible rfl
          apply Build.detg 35 Ext.refl (by rfl) (by rfl) rfl rfl
          case h =>   -- 20: t35 := Op.load 3 (tmp 34)
            intro ax wx hE hR hF
            have e25 : ax.eval (.tmp 25) = _ := hF 10 (det 25 _) (by decide) (mem4 (mem4 (.tail _ (.head _))))
            have e34 : ax.eval (.tmp 34) = _ := hF 19 (det 34 _) (by decide) (.head _)
            have q0 := HP1.out _ (hEx0.trans hR); have q1 := HP2.out _ (hEx0.trans hR); obtain ⟨q1, q2⟩ := q1; have qa := (hA0.ext hR).cell T; rw [lim_at T hT] at qa
            refine ⟨e25, ?_⟩
            simp [go_sem, BigFrame.eval_const, BigFrame.eval_global, BigFrame.eval_func, ↓IntWalk.iteOmega, ev e25, ev e34, dl, hlm, q0, q1, q2, qa]
            with_reducible rfl
          apply Build.detg 36 Ext.refl (by rfl) (by rfl) rfl rfl
          case h =>   -- 21: t36 := Op.indexAddr 30 (tmp 5) (tmp 35)
            intro ax wx hE hR hF
            have e5 : ax.eval (.tmp 5) = .pointer (some ⟨w.heap.size, 0, none⟩) := hE.eval 5 (by rfl) rfl
            have e25 : ax.eval (.tmp 25) = _ := hF 10 (det 25 _) (by decide) (mem4 (mem4 (.tail _ (.tail _ (.head _)))))
            have e35 : ax.eval (.tmp 35) = _ := hF 20 (det 35 _) (by decide) (.head _)
            refine ⟨e25, ?_⟩
            simp [go_sem, BigFrame.eval_const, BigFrame.eval_global, BigFrame.eval_func, ↓IntWalk.iteOmega, ev e5, ev e25, ev e35, dl, hlm]
            with_reducible rfl
          apply Build.detg 37 Ext.refl (by rfl) (by rfl) rfl rfl
          case h =>   -- 22: t37 := Op.load 3 (tmp 36)
            intro ax wx hE hR hF
            have e25 : ax.eval (.tmp 25) = _ := hF 10 (det 25 _) (by decide) (mem4 (mem4 (.tail _ (.tail _ (.tail _ (.head _))))))
            have e36 : ax.eval (.tmp 36) = _ := hF 21 (det 36 _) (by decide) (.head _)
            have q0 := HP1.out _ (hEx0.trans hR); have q1 := HP2.out _ (hEx0.trans hR); obtain ⟨q1, q2⟩ := q1; have qa := (hA0.ext hR).cell T; rw [lim_at T hT] at qa
            refine ⟨e25, ?_⟩
            simp [go_sem, BigFrame.eval_const, BigFrame.eval_global, BigFrame.eval_func, ↓IntWalk.iteOmega, ev e25, ev e36, dl, hlm, q0, q1, q2, qa]
            with_reducible rfl
          apply Build.detg 38 Ext.refl (by rfl) (by rfl) rfl rfl
          case h =>   -- 23: t38 := Op.binOp BinOp.geq 3 (tmp 30) (tmp 37) 3
            intro ax wx hE hR hF
            have e25 : ax.eval (.tmp 25) = _ := hF 10 (det 25 _) (by decide) (mem4 (mem4 (mem4 (.head _))))
            have e30 : ax.eval (.tmp 30) = _ := hF 15 (det 30 _) (by decide) (mem4 (.tail _ (.tail _ (.tail _ (.head _)))))
            have e37 : ax.eval (.tmp 37) = _ := hF 22 (det 37 _) (by decide) (.head _)
            refine ⟨e25, ?_⟩
            simp [go_sem, BigFrame.eval_const, BigFrame.eval_global, BigFrame.eval_func, ↓IntWalk.iteOmega, ev e25, ev e30, ev e37, dl, hlm]
            with_reducible rfl
          apply Build.det 39 Ext.refl (by rfl) (by rfl) rfl
          case h =>   -- 24: t39 := Op.pick (tmp 25) (const (Value.bool true)) (tmp 38)
            intro ax wx hE hR hF
            have e25 : ax.eval (.tmp 25) = _ := hF 10 (det 25 _) (by decide) (mem4 (mem4 (mem4 (.tail _ (.head _)))))
            have e38 : ax.eval (.tmp 38) = _ := hF 23 (det 38 _) (by decide) (.head _)
            simp [go_sem, BigFrame.eval_const, BigFrame.eval_global, BigFrame.eval_func, ↓IntWalk.iteOmega, ev e25, ev e38, dl, hlm]
            with_reducible rfl
          apply Build.det 40 Ext.refl (by rfl) (by rfl) rfl
          case h =>   -- 25: t40 := Op.move (tmp 39)
            intro ax wx hE hR hF
            have e39 : ax.eval (.tmp 39) = _ := hF 24 (det 39 _) (by decide) (.head _)
            simp [go_sem, BigFrame.eval_const, BigFrame.eval_global, BigFrame.eval_func, ↓IntWalk.iteOmega, ev e39, dl, hlm]
            with_reducible rfl
          refine Build.skip 41 (by rfl) (by rfl) rfl rfl ?_ ?_
          · intro ax wx hE hR hF
            have e40 : ax.eval (.tmp 40) = _ := hF 25 (det 40 _) (by decide) (.head _)
            exact e40
          refine Build.skip 42 (by rfl) (by rfl) rfl rfl ?_ ?_
          · intro ax wx hE hR hF
            have e40 : ax.eval (.tmp 40) = _ := hF 25 (det 40 _) (by decide) (.tail _ (.head _))
            exact e40
          refine Build.skip 43 (by rfl) (by rfl) rfl rfl ?_ ?_
          · intro ax wx hE hR hF
            have e40 : ax.eval (.tmp 40) = _ := hF 25 (det 40 _) (by decide) (.tail _ (.tail _ (.head _)))
            exact e40
          refine Build.skipu 44 (by rfl) (by rfl) rfl rfl ?_ ?_
          · intro ax wx hE hR hF
            have e43 : ax.eval (.tmp 43) = _ := hF 28 (det 43 _) (by decide) (.head _)
            exact e43
          refine Build.skipu 45 (by rfl) (by rfl) rfl rfl ?_ ?_
          · intro ax wx hE hR hF
            have e43 : ax.eval (.tmp 43) = _ := hF 28 (det 43 _) (by decide) (.tail _ (.head _))
            exact e43
          refine Build.skipu 46 (by rfl) (by rfl) rfl rfl ?_ ?_
          · intro ax wx hE hR hF
            have e43 : ax.eval (.tmp 43) = _ := hF 28 (det 43 _) (by decide) (.tail _ (.tail _ (.head _)))
            exact e43
          refine Build.skipu 47 (by rfl) (by rfl) rfl rfl ?_ ?_
          · intro ax wx hE hR hF
            have e43 : ax.eval (.tmp 43) = _ := hF 28 (det 43 _) (by decide) (.tail _ (.tail _ (.tail _ (.head _))))
            exact e43
          refine Build.skipu 48 (by rfl) (by rfl) rfl rfl ?_ ?_
          · intro ax wx hE hR hF
            have e43 : ax.eval (.tmp 43) = _ := hF 28 (det 43 _) (by decide) (mem4 (.head _))
            exact e43
          refine Build.skipu 49 (by rfl) (by rfl) rfl rfl ?_ ?_
          · intro ax wx hE hR hF
            have e43 : ax.eval (.tmp 43) = _ := hF 28 (det 43 _) (by decide) (mem4 (.tail _ (.head _)))
            exact e43
          refine Build.skipu 50 (by rfl) (by rfl) rfl rfl ?_ ?_
          · intro ax wx hE hR hF
            have e43 : ax.eval (.tmp 43) = _ := hF 28 (det 43 _) (by decide) (mem4 (.tail _ (.tail _ (.head _))))
            exact e43
          refine Build.skipu 51 (by rfl) (by rfl) rfl rfl ?_ ?_
          · intro ax wx hE hR hF
            have e43 : ax.eval (.tmp 43) = _ := hF 28 (det 43 _) (by decide) (mem4 (.tail _ (.tail _ (.tail _ (.head _)))))
            exact e43
          refine Build.skipu 52 (by rfl) (by rfl) rfl rfl ?_ ?_
          · intro ax wx hE hR hF
            have e43 : ax.eval (.tmp 43) = _ := hF 28 (det 43 _) (by decide) (mem4 (mem4 (.head _)))
            exact e43
          refine Build.skipu 53 (by rfl) (by rfl) rfl rfl ?_ ?_
          · intro ax wx hE hR hF
            have e43 : ax.eval (.tmp 43) = _ := hF 28 (det 43 _) (by decide) (mem4 (mem4 (.tail _ (.head _))))
            exact e43
          refine Build.skip 54 (by rfl) (by rfl) rfl rfl ?_ ?_
          · intro ax wx hE hR hF
            have e40 : ax.eval (.tmp 40) = _ := hF 25 (det 40 _) (by decide) (mem4 (mem4 (mem4 (.tail _ (.head _)))))
            exact e40
          apply Build.det 55 Ext.refl (by rfl) (by rfl) rfl
          case h =>   -- 40: t55 := Op.pick (tmp 40) (const (Value.bool true)) (tmp 54)
            intro ax wx hE hR hF
            have e40 : ax.eval (.tmp 40) = _ := hF 25 (det 40 _) (by decide) (mem4 (mem4 (mem4 (.tail _ (.tail _ (.head _))))))
            have e54 : ax.eval (.tmp 54) = _ := hF 39 (det 54 _) (by decide) (.head _)
            simp [go_sem, BigFrame.eval_const, BigFrame.eval_global, BigFrame.eval_func, ↓IntWalk.iteOmega, ev e40, ev e54, dl, hlm]
            with_reducible rfl
          apply Build.stop
          refine ⟨by kernel_rfl, .inl ⟨rfl, ?_⟩⟩
          intro ax w2 hE R2 hF
          have e15 : ax.eval (.tmp 15) = _ := hF 0 (det 15 _) (mem16 (mem16 (mem4 (mem4 (.head _)))))
          have e16 : ax.eval (.tmp 16) = _ := hF 1 (det 16 _) (mem16 (mem16 (mem4 (.tail _ (.tail _ (.tail _ (.head _)))))))
          have e17 : ax.eval (.tmp 17) = _ := hF 2 (det 17 _) (mem16 (mem16 (mem4 (.tail _ (.tail _ (.head _))))))
          have e18 : ax.eval (.tmp 18) = _ := hF 3 (det 18 _) (mem16 (mem16 (mem4 (.tail _ (.head _)))))
          have e19 : ax.eval (.tmp 19) = _ := hF 4 (det 19 _) (mem16 (mem16 (mem4 (.head _))))
          have e20 : ax.eval (.tmp 20) = _ := hF 5 (det 20 _) (mem16 (mem16 (.tail _ (.tail _ (.tail _ (.head _))))))
          have e21 : ax.eval (.tmp 21) = _ := hF 6 (det 21 _) (mem16 (mem16 (.tail _ (.tail _ (.head _)))))
          have e22 : ax.eval (.tmp 22) = _ := hF 7 (det 22 _) (mem16 (mem16 (.tail _ (.head _))))
          have e23 : ax.eval (.tmp 23) = _ := hF 8 (det 23 _) (mem16 (mem16 (.head _)))
          have e24 : ax.eval (.tmp 24) = _ := hF 9 (det 24 _) (mem16 (mem4 (mem4 (mem4 (.tail _ (.tail _ (.tail _ (.head _))))))))
          have e25 : ax.eval (.tmp 25) = _ := hF 10 (det 25 _) (mem16 (mem4 (mem4 (mem4 (.tail _ (.tail _ (.head _)))))))
          have e26 : ax.eval (.tmp 26) = _ := hF 11 (det 26 _) (mem16 (mem4 (mem4 (mem4 (.tail _ (.head _))))))
          have e27 : ax.eval (.tmp 27) = _ := hF 12 (det 27 _) (mem16 (mem4 (mem4 (mem4 (.head _)))))
          have e28 : ax.eval (.tmp 28) = _ := hF 13 (det 28 _) (mem16 (mem4 (mem4 (.tail _ (.tail _ (.tail _ (.head _)))))))
          have e29 : ax.eval (.tmp 29) = _ := hF 14 (det 29 _) (mem16 (mem4 (mem4 (.tail _ (.tail _ (.head _))))))
          have e30 : ax.eval (.tmp 30) = _ := hF 15 (det 30 _) (mem16 (mem4 (mem4 (.tail _ (.head _)))))
          have e31 : ax.eval (.tmp 31) = _ := hF 16 (det 31 _) (mem16 (mem4 (mem4 (.head _))))
          have e32 : ax.eval (.tmp 32) = _ := hF 17 (det 32 _) (mem16 (mem4 (.tail _ (.tail _ (.tail _ (.head _))))))
          have e33 : ax.eval (.tmp 33) = _ := hF 18 (det 33 _) (mem16 (mem4 (.tail _ (.tail _ (.head _)))))
          have e34 : ax.eval (.tmp 34) = _ := hF 19 (det 34 _) (mem16 (mem4 (.tail _ (.head _))))
          have e35 : ax.eval (.tmp 35) = _ := hF 20 (det 35 _) (mem16 (mem4 (.head _)))
          have e36 : ax.eval (.tmp 36) = _ := hF 21 (det 36 _) (mem16 (.tail _ (.tail _ (.tail _ (.head _)))))
          have e37 : ax.eval (.tmp 37) = _ := hF 22 (det 37 _) (mem16 (.tail _ (.tail _ (.head _))))
          have e38 : ax.eval (.tmp 38) = _ := hF 23 (det 38 _) (mem16 (.tail _ (.head _)))
          have e39 : ax.eval (.tmp 39) = _ := hF 24 (det 39 _) (mem16 (.head _))
          have e40 : ax.eval (.tmp 40) = _ := hF 25 (det 40 _) (mem4 (mem4 (mem4 (.tail _ (.tail _ (.tail _ (.head _)))))))
          have e41 : ax.eval (.tmp 41) = _ := hF 26 (det 41 _) (mem4 (mem4 (mem4 (.tail _ (.tail _ (.head _))))))
          have e42 : ax.eval (.tmp 42) = _ := hF 27 (det 42 _) (mem4 (mem4 (mem4 (.tail _ (.head _)))))
          have e43 : ax.eval (.tmp 43) = _ := hF 28 (det 43 _) (mem4 (mem4 (mem4 (.head _))))
          have e44 : ax.eval (.tmp 44) = _ := hF 29 (det 44 _) (mem4 (mem4 (.tail _ (.tail _ (.tail _ (.head _))))))
          have e45 : ax.eval (.tmp 45) = _ := hF 30 (det 45 _) (mem4 (mem4 (.tail _ (.tail _ (.head _)))))
          have e46 : ax.eval (.tmp 46) = _ := hF 31 (det 46 _) (mem4 (mem4 (.tail _ (.head _))))
          have e47 : ax.eval (.tmp 47) = _ := hF 32 (det 47 _) (mem4 (mem4 (.head _)))
          have e48 : ax.eval (.tmp 48) = _ := hF 33 (det 48 _) (mem4 (.tail _ (.tail _ (.tail _ (.head _)))))
          have e49 : ax.eval (.tmp 49) = _ := hF 34 (det 49 _) (mem4 (.tail _ (.tail _ (.head _))))
          have e50 : ax.eval (.tmp 50) = _ := hF 35 (det 50 _) (mem4 (.tail _ (.head _)))
          have e51 : ax.eval (.tmp 51) = _ := hF 36 (det 51 _) (mem4 (.head _))
          have e52 : ax.eval (.tmp 52) = _ := hF 37 (det 52 _) (.tail _ (.tail _ (.tail _ (.head _))))
          have e53 : ax.eval (.tmp 53) = _ := hF 38 (det 53 _) (.tail _ (.tail _ (.head _)))
          have e54 : ax.eval (.tmp 54) = _ := hF 39 (det 54 _) (.tail _ (.head _))
          have e55 : ax.eval (.tmp 55) = _ := hF 40 (det 55 _) (.head _)
          rw [AllEq.frame (D := [15, 16, 17, 18, 19, 20, 21, 22, 23, 24, 25, 26, 27, 28, 29, 30, 31, 32, 33, 34, 35, 36, 37, 38, 39, 40, 41, 42, 43, 44, 45, 46, 47, 48, 49, 50, 51, 52, 53, 54, 55]) (AllEq.cons e15 (AllEq.cons e16 (AllEq.cons e17 (AllEq.cons e18 (AllEq.cons e19 (AllEq.cons e20 (AllEq.cons e21 (AllEq.cons e22 (AllEq.cons e23 (AllEq.cons e24 (AllEq.cons e25 (AllEq.cons e26 (AllEq.cons e27 (AllEq.cons e28 (AllEq.cons e29 (AllEq.cons e30 (AllEq.cons e31 (AllEq.cons e32 (AllEq.cons e33 (AllEq.cons e34 (AllEq.cons e35 (AllEq.cons e36 (AllEq.cons e37 (AllEq.cons e38 (AllEq.cons e39 (AllEq.cons e40 (AllEq.cons e41 (AllEq.cons e42 (AllEq.cons e43 (AllEq.cons e44 (AllEq.cons e45 (AllEq.cons e46 (AllEq.cons e47 (AllEq.cons e48 (AllEq.cons e49 (AllEq.cons e50 (AllEq.cons e51 (AllEq.cons e52 (AllEq.cons e53 (AllEq.cons e54 (AllEq.cons e55 (AllEq.nil)))))))))))))))))))))))))))))))))))))))))) hE rfl]
          clear hF hE e15 e16 e17 e18 e19 e20 e21 e22 e23 e24 e25 e26 e27 e28 e29 e30 e31 e32 e33 e34 e35 e36 e37 e38 e39 e40 e41 e42 e43 e44 e45 e46 e47 e48 e49 e50 e51 e52 e53 e54 e55
          simp only [List.foldl_cons, List.foldl_nil, Act.put, List.setIfInBounds_toArray, List.set_cons_succ, List.set_cons_zero]
          have hEx := hEx0.trans R2
          have hG : Hid (GB = false) := HB.out HBAD
          go_wp2_with fail
          go_ret
          exact ⟨by rw [hG.out] <;> rfl, hEx⟩
      · rw [placeB_no hg] at hCA
        have HCA := Lib.hid hCA
        have HBAD : ¬ okP L s0 s1 j := fun h => hg (HOKE.out h).1
        clear hCA hg
        refine wp_typed (R := Ext) (w0 := wr) [[], [], [0, 1], [0, 1, 2], [], [], [4, 5], [4, 5, 6], [0, 1, 2, 3, 4, 5, 6, 7], [0, 1, 2, 3, 4, 5, 6, 7, 8], [0, 1, 2, 3, 4, 5, 6, 7, 8, 9], [0, 1, 2, 3, 4, 5, 6, 7, 8, 9, 10], [0, 1, 2, 3, 4, 5, 6, 7, 8, 9, 10], [0, 1, 2, 3, 4, 5, 6, 7, 8, 9, 10, 11, 12], [0, 1, 2, 3, 4, 5, 6, 7, 8, 9, 10, 11, 12, 13], [0, 1, 2, 3, 4, 5, 6, 7, 8, 9, 10, 11, 12, 13, 14], [0, 1, 2, 3, 4, 5, 6, 7, 8, 9, 10], [0, 1, 2, 3, 4, 5, 6, 7, 8, 9, 10], [0, 1, 2, 3, 4, 5, 6, 7, 8, 9, 10, 16, 17], [0, 1, 2, 3, 4, 5, 6, 7, 8, 9, 10, 16, 17, 18], [0, 1, 2, 3, 4, 5, 6, 7, 8, 9, 10, 16, 17, 18, 19], [0, 1, 2, 3, 4, 5, 6, 7, 8, 9, 10, 16, 17, 18, 19, 20], [0, 1, 2, 3, 4, 5, 6, 7, 8, 9, 10, 16, 17, 18, 19, 20, 21], [0, 1, 2, 3, 4, 5, 6, 7, 8, 9, 10, 11, 12, 13, 14, 15, 16, 17, 18, 19, 20, 21, 22], [0, 1, 2, 3, 4, 5, 6, 7, 8, 9, 10, 11, 12, 13, 14, 15, 16, 17, 18, 19, 20, 21, 22, 23], [0, 1, 2, 3, 4, 5, 6, 7, 8, 9, 10, 11, 12, 13, 14, 15, 16, 17, 18, 19, 20, 21, 22, 23, 24], [0, 1, 2, 3, 4, 5, 6, 7, 8, 9, 10, 11, 12, 13, 14, 15, 16, 17, 18, 19, 20, 21, 22, 23, 24, 25], [0, 1, 2, 3, 4, 5, 6, 7, 8, 9, 10, 11, 12, 13, 14, 15, 16, 17, 18, 19, 20, 21, 22, 23, 24, 25, 26], [0, 1, 2, 3, 4, 5, 6, 7, 8, 9, 10, 11, 12, 13, 14, 15, 16, 17, 18, 19, 20, 21, 22, 23, 24, 25, 26, 27], [0, 1, 2, 3, 4, 5, 6, 7, 8, 9, 10, 11, 12, 13, 14, 15, 16, 17, 18, 19, 20, 21, 22, 23, 24, 25, 26, 27, 28], [0, 1, 2, 3, 4, 5, 6, 7, 8, 9, 10, 11, 12, 13, 14, 15, 16, 17, 18, 19, 20, 21, 22, 23, 24, 25, 26, 27, 28], [0, 1, 2, 3, 4, 5, 6, 7, 8, 9, 10, 11, 12, 13, 14, 15, 16, 17, 18, 19, 20, 21, 22, 23, 24, 25, 26, 27, 28, 30], [0, 1, 2, 3, 4, 5, 6, 7, 8, 9, 10, 11, 12, 13, 14, 15, 16, 17, 18, 19, 20, 21, 22, 23, 24, 25, 26, 27, 28, 29, 30, 31], [0, 1, 2, 3, 4, 5, 6, 7, 8, 9, 10, 11, 12, 13, 14, 15, 16, 17, 18, 19, 20, 21, 22, 23, 24, 25, 26, 27, 28, 29, 30, 31, 32], [0, 1, 2, 3, 4, 5, 6, 7, 8, 9, 10, 11, 12, 13, 14, 15, 16, 17, 18, 19, 20, 21, 22, 23, 24, 25, 26, 27, 28], [0, 1, 2, 3, 4, 5, 6, 7, 8, 9, 10, 11, 12, 13, 14, 15, 16, 17, 18, 19, 20, 21, 22, 23, 24, 25, 26, 27, 28], [0, 1, 2, 3, 4, 5, 6, 7, 8, 9, 10, 11, 12, 13, 14, 15, 16, 17, 18, 19, 20, 21, 22, 23, 24, 25, 26, 27, 28, 34, 35], [0, 1, 2, 3, 4, 5, 6, 7, 8, 9, 10, 11, 12, 13, 14, 15, 16, 17, 18, 19, 20, 21, 22, 23, 24, 25, 26, 27, 28, 34, 35, 36], [0, 1, 2, 3, 4, 5, 6, 7, 8, 9, 10, 11, 12, 13, 14, 15, 16, 17, 18, 19, 20, 21, 22, 23, 24, 25, 26, 27, 28, 29, 30, 31, 32, 33, 34, 35, 36, 37], [0, 1, 2, 3, 4, 5, 6, 7, 8, 9, 10, 11, 12, 13, 14, 15, 16, 17, 18, 19, 20, 21, 22, 23, 24, 25, 26, 27, 28, 29, 30, 31, 32, 33, 34, 35, 36, 37, 38], [0, 1, 2, 3, 4, 5, 6, 7, 8, 9, 10, 11, 12, 13, 14, 15, 16, 17, 18, 19, 20, 21, 22, 23, 24, 25, 26, 27, 28, 29, 30, 31, 32, 33, 34, 35, 36, 37, 38, 39]] [15, 16, 17, 18, 19, 20, 21, 22, 23, 24, 25, 26, 27, 28, 29, 30, 31, 32, 33, 34, 35, 36, 37, 38, 39, 40, 41, 42, 43, 44, 45, 46, 47, 48, 49, 50, 51, 52, 53, 54, 55] Ext.refl (fun _ _ _ => Ext.trans) (Ext.drew _) (by kernel_rfl) ?_
        apply Build.det 15 Ext.refl (by rfl) (by rfl) rfl
        case h =>   -- 0: t15 := Op.move (tmp 0)
          intro ax wx hE hR hF
          have e0 : ax.eval (.tmp 0) = .slice (some ⟨b1, o1, none⟩) len cap1 := hE.eval 0 (by rfl) rfl
          simp [go_sem, BigFrame.eval_const, BigFrame.eval_global, BigFrame.eval_func, ↓IntWalk.iteOmega, ev e0, Bool.not_false]
          with_reducible rfl
        apply Build.det 16 Ext.refl (by rfl) (by rfl) rfl
        case h =>   -- 1: t16 := Op.move (tmp 7)
          intro ax wx hE hR hF
          have e7 : ax.eval (.tmp 7) = .int .i64 (j : Int) := hE.eval 7 (by rfl) rfl
          simp [go_sem, BigFrame.eval_const, BigFrame.eval_global, BigFrame.eval_func, ↓IntWalk.iteOmega, ev e7, Bool.not_false]
          with_reducible rfl
        apply Build.det 17 Ext.refl (by rfl) (by rfl) rfl
        case h =>   -- 2: t17 := Op.indexAddr 41 (tmp 15) (tmp 16)
          intro ax wx hE hR hF
          have e15 : ax.eval (.tmp 15) = _ := hF 0 (det 15 _) (by decide) (.tail _ (.head _))
          have e16 : ax.eval (.tmp 16) = _ := hF 1 (det 16 _) (by decide) (.head _)
          simp [go_sem, BigFrame.eval_const, BigFrame.eval_global, BigFrame.eval_func, ↓IntWalk.iteOmega, ev e15, ev e16, Bool.not_false]
          with_reducible rfl
        apply Build.det 18 Ext.refl (by rfl) (by rfl) rfl
        case h =>   -- 3: t18 := Op.load 3 (tmp 17)
          intro ax wx hE hR hF
          have e17 : ax.eval (.tmp 17) = _ := hF 2 (det 17 _) (by decide) (.head _)
          have q0 := HP1.out _ (hEx0.trans hR); have q1 := HP2.out _ (hEx0.trans hR); obtain ⟨q1, q2⟩ := q1
          simp [go_sem, BigFrame.eval_const, BigFrame.eval_global, BigFrame.eval_func, ↓IntWalk.iteOmega, ev e17, Bool.not_false, q0, q1, q2]
          with_reducible rfl
        apply Build.det 19 Ext.refl (by rfl) (by rfl) rfl
        case h =>   -- 4: t19 := Op.move (tmp 1)
          intro ax wx hE hR hF
          have e1 : ax.eval (.tmp 1) = .slice (some ⟨b2, o2, none⟩) len cap2 := hE.eval 1 (by rfl) rfl
          simp [go_sem, BigFrame.eval_const, BigFrame.eval_global, BigFrame.eval_func, ↓IntWalk.iteOmega, ev e1, Bool.not_false]
          with_reducible rfl
        apply Build.det 20 Ext.refl (by rfl) (by rfl) rfl
        case h =>   -- 5: t20 := Op.move (tmp 7)
          intro ax wx hE hR hF
          have e7 : ax.eval (.tmp 7) = .int .i64 (j : Int) := hE.eval 7 (by rfl) rfl
          simp [go_sem, BigFrame.eval_const, BigFrame.eval_global, BigFrame.eval_func, ↓IntWalk.iteOmega, ev e7, Bool.not_false]
          with_reducible rfl
        apply Build.det 21 Ext.refl (by rfl) (by rfl) rfl
        case h =>   -- 6: t21 := Op.indexAddr 42 (tmp 19) (tmp 20)
          intro ax wx hE hR hF
          have e19 : ax.eval (.tmp 19) = _ := hF 4 (det 19 _) (by decide) (.tail _ (.head _))
          have e20 : ax.eval (.tmp 20) = _ := hF 5 (det 20 _) (by decide) (.head _)
          simp [go_sem, BigFrame.eval_const, BigFrame.eval_global, BigFrame.eval_func, ↓IntWalk.iteOmega, ev e19, ev e20, Bool.not_false]
          with_reducible rfl
        apply Build.det 22 Ext.refl (by rfl) (by rfl) rfl
        case h =>   -- 7: t22 := Op.load 23 (tmp 21)
          intro ax wx hE hR hF
          have e21 : ax.eval (.tmp 21) = _ := hF 6 (det 21 _) (by decide) (.head _)
          have q0 := HP1.out _ (hEx0.trans hR); have q1 := HP2.out _ (hEx0.trans hR); obtain ⟨q1, q2⟩ := q1
          simp [go_sem, BigFrame.eval_const, BigFrame.eval_global, BigFrame.eval_func, ↓IntWalk.iteOmega, ev e21, Bool.not_false, q0, q1, q2]
          with_reducible rfl
        apply Build.call 23 Ext.refl (by rfl) (by rfl) rfl
        case h =>
          intro ax wx hE hR hF
          have e18 : ax.eval (.tmp 18) = _ := hF 3 (det 18 _) (by decide) (mem4 (.head _))
          have e22 : ax.eval (.tmp 22) = _ := hF 7 (det 22 _) (by decide) (.head _)
          simp [go_sem, BigFrame.eval_const, BigFrame.eval_global, BigFrame.eval_func, ↓IntWalk.iteOmega, ev e18, ev e22, Bool.not_false]
          with_reducible exact ⟨rfl, rfl⟩
        case hc => intro wx hR; with_reducible exact HCA.out wx
        apply Build.det 24 Ext.refl (by rfl) (by rfl) rfl
        case h =>   -- 9: t24 := Op.unOp UnOp.not 4 (tmp 23)
          intro ax wx hE hR hF
          have e23 : ax.eval (.tmp 23) = _ := hF 8 (det 23 _) (by decide) (.head _)
          simp [go_sem, BigFrame.eval_const, BigFrame.eval_global, BigFrame.eval_func, ↓IntWalk.iteOmega, ev e23, Bool.not_false]
          with_reducible rfl
        apply Build.det 25 Ext.refl (by rfl) (by rfl) rfl
        case h =>   -- 10: t25 := Op.move (tmp 24)
          intro ax wx hE hR hF
          have e24 : ax.eval (.tmp 24) = _ := hF 9 (det 24 _) (by decide) (.head _)
          simp [go_sem, BigFrame.eval_const, BigFrame.eval_global, BigFrame.eval_func, ↓IntWalk.iteOmega, ev e24, Bool.not_false]
          with_reducible rfl
        refine Build.skip 26 (by rfl) (by rfl) rfl rfl ?_ ?_
        · intro ax wx hE hR hF
          have e25 : ax.eval (.tmp 25) = _ := hF 10 (det 25 _) (by decide) (.head _)
          exact e25
        refine Build.skip 27 (by rfl) (by rfl) rfl rfl ?_ ?_
        · intro ax wx hE hR hF
          have e25 : ax.eval (.tmp 25) = _ := hF 10 (det 25 _) (by decide) (.tail _ (.head _))
          exact e25
        refine Build.skip 28 (by rfl) (by rfl) rfl rfl ?_ ?_
        · intro ax wx hE hR hF
          have e25 : ax.eval (.tmp 25) = _ := hF 10 (det 25 _) (by decide) (.tail _ (.tail _ (.head _)))
          exact e25
        refine Build.skip 29 (by rfl) (by rfl) rfl rfl ?_ ?_
        · intro ax wx hE hR hF
          have e25 : ax.eval (.tmp 25) = _ := hF 10 (det 25 _) (by decide) (.tail _ (.tail _ (.tail _ (.head _))))
          exact e25
        refine Build.skip 30 (by rfl) (by rfl) rfl rfl ?_ ?_
        · intro ax wx hE hR hF
          have e25 : ax.eval (.tmp 25) = _ := hF 10 (det 25 _) (by decide) (mem4 (.head _))
          exact e25
        refine Build.skip 31 (by rfl) (by rfl) rfl rfl ?_ ?_
        · intro ax wx hE hR hF
          have e25 : ax.eval (.tmp 25) = _ := hF 10 (det 25 _) (by decide) (mem4 (.tail _ (.head _)))
          exact e25
        refine Build.skip 32 (by rfl) (by rfl) rfl rfl ?_ ?_
        · intro ax wx hE hR hF
          have e25 : ax.eval (.tmp 25) = _ := hF 10 (det 25 _) (by decide) (mem4 (.tail _ (.tail _ (.head _))))
          exact e25
        refine Build.skip 33 (by rfl) (by rfl) rfl rfl ?_ ?_
        · intro ax wx hE hR hF
          have e25 : ax.eval (.tmp 25) = _ := hF 10 (det 25 _) (by decide) (mem4 (.tail _ (.tail _ (.tail _ (.head _)))))
          exact e25
        refine Build.skip 34 (by rfl) (by rfl) rfl rfl ?_ ?_
        · intro ax wx hE hR hF
          have e25 : ax.eval (.tmp 25) = _ := hF 10 (det 25 _) (by decide) (mem4 (mem4 (.head _)))
          exact e25
        refine Build.skip 35 (by rfl) (by rfl) rfl rfl ?_ ?_
        · intro ax wx hE hR hF
          have e25 : ax.eval (.tmp 25) = _ := hF 10 (det 25 _) (by decide) (mem4 (mem4 (.tail _ (.head _))))
          exact e25
        refine Build.skip 36 (by rfl) (by rfl) rfl rfl ?_ ?_
        · intro ax wx hE hR hF
          have e25 : ax.eval (.tmp 25) = _ := hF 10 (det 25 _) (by decide) (mem4 (mem4 (.tail _ (.tail _ (.head _)))))
          exact e25
        refine Build.skip 37 (by rfl) (by rfl) rfl rfl ?_ ?_
        · intro ax wx hE hR hF
          have e25 : ax.eval (.tmp 25) = _ := hF 10 (det 25 _) (by decide) (mem4 (mem4 (.tail _ (.tail _ (.tail _ (.head _))))))
          exact e25
        refine Build.skip 38 (by rfl) (by rfl) rfl rfl ?_ ?_
        · intro ax wx hE hR hF
          have e25 : ax.eval (.tmp 25) = _ := hF 10 (det 25 _) (by decide) (mem4 (mem4 (mem4 (.head _))))
          exact e25
        apply Build.det 39 Ext.refl (by rfl) (by rfl) rfl
        case h =>   -- 24: t39 := Op.pick (tmp 25) (const (Value.bool true)) (tmp 38)
          intro ax wx hE hR hF
          have e25 : ax.eval (.tmp 25) = _ := hF 10 (det 25 _) (by decide) (mem4 (mem4 (mem4 (.tail _ (.head _)))))
          have e38 : ax.eval (.tmp 38) = _ := hF 23 (det 38 _) (by decide) (.head _)
          simp [go_sem, BigFrame.eval_const, BigFrame.eval_global, BigFrame.eval_func, ↓IntWalk.iteOmega, ev e25, ev e38, Bool.not_false]
          with_reducible rfl
        apply Build.det 40 Ext.refl (by rfl) (by rfl) rfl
        case h =>   -- 25: t40 := Op.move (tmp 39)
          intro ax wx hE hR hF
          have e39 : ax.eval (.tmp 39) = _ := hF 24 (det 39 _) (by decide) (.head _)
          simp [go_sem, BigFrame.eval_const, BigFrame.eval_global, BigFrame.eval_func, ↓IntWalk.iteOmega, ev e39, Bool.not_false]
          with_reducible rfl
        refine Build.skip 41 (by rfl) (by rfl) rfl rfl ?_ ?_
        · intro ax wx hE hR hF
          have e40 : ax.eval (.tmp 40) = _ := hF 25 (det 40 _) (by decide) (.head _)
          exact e40
        refine Build.skip 42 (by rfl) (by rfl) rfl rfl ?_ ?_
        · intro ax wx hE hR hF
          have e40 : ax.eval (.tmp 40) = _ := hF 25 (det 40 _) (by decide) (.tail _ (.head _))
          exact e40
        refine Build.skip 43 (by rfl) (by rfl) rfl rfl ?_ ?_
        · intro ax wx hE hR hF
          have e40 : ax.eval (.tmp 40) = _ := hF 25 (det 40 _) (by decide) (.tail _ (.tail _ (.head _)))
          exact e40
        refine Build.skipu 44 (by rfl) (by rfl) rfl rfl ?_ ?_
        · intro ax wx hE hR hF
          have e43 : ax.eval (.tmp 43) = _ := hF 28 (det 43 _) (by decide) (.head _)
          exact e43
        refine Build.skipu 45 (by rfl) (by rfl) rfl rfl ?_ ?_
        · intro ax wx hE hR hF
          have e43 : ax.eval (.tmp 43) = _ := hF 28 (det 43 _) (by decide) (.tail _ (.head _))
          exact e43
        refine Build.skipu 46 (by rfl) (by rfl) rfl rfl ?_ ?_
        · intro ax wx hE hR hF
          have e43 : ax.eval (.tmp 43) = _ := hF 28 (det 43 _) (by decide) (.tail _ (.tail _ (.head _)))
          exact e43
        refine Build.skipu 47 (by rfl) (by rfl) rfl rfl ?_ ?_
        · intro ax wx hE hR hF
          have e43 : ax.eval (.tmp 43) = _ := hF 28 (det 43 _) (by decide) (.tail _ (.tail _ (.tail _ (.head _))))
          exact e43
        refine Build.skipu 48 (by rfl) (by rfl) rfl rfl ?_ ?_
        · intro ax wx hE hR hF
          have e43 : ax.eval (.tmp 43) = _ := hF 28 (det 43 _) (by decide) (mem4 (.head _))
          exact e43
        refine Build.skipu 49 (by rfl) (by rfl) rfl rfl ?_ ?_
        · intro ax wx hE hR hF
          have e43 : ax.eval (.tmp 43) = _ := hF 28 (det 43 _) (by decide) (mem4 (.tail _ (.head _)))
          exact e43
        refine Build.skipu 50 (by rfl) (by rfl) rfl rfl ?_ ?_
        · intro ax wx hE hR hF
          have e43 : ax.eval (.tmp 43) = _ := hF 28 (det 43 _) (by decide) (mem4 (.tail _ (.tail _ (.head _))))
          exact e43
        refine Build.skipu 51 (by rfl) (by rfl) rfl rfl ?_ ?_
        · intro ax wx hE hR hF
          have e43 : ax.eval (.tmp 43) = _ := hF 28 (det 43 _) (by decide) (mem4 (.tail _ (.tail _ (.tail _ (.head _)))))
          exact e43
        refine Build.skipu 52 (by rfl) (by rfl) rfl rfl ?_ ?_
        · intro ax wx hE hR hF
          have e43 : ax.eval (.tmp 43) = _ := hF 28 (det 43 _) (by decide) (mem4 (mem4 (.head _)))
          exact e43
        refine Build.skipu 53 (by rfl) (by rfl) rfl rfl ?_ ?_
        · intro ax wx hE hR hF
          have e43 : ax.eval (.tmp 43) = _ := hF 28 (det 43 _) (by decide) (mem4 (mem4 (.tail _ (.head _))))
          exact e43
        refine Build.skip 54 (by rfl) (by rfl) rfl rfl ?_ ?_
        · intro ax wx hE hR hF
          have e40 : ax.eval (.tmp 40) = _ := hF 25 (det 40 _) (by decide) (mem4 (mem4 (mem4 (.tail _ (.head _)))))
          exact e40
        apply Build.det 55 Ext.refl (by rfl) (by rfl) rfl
        case h =>   -- 40: t55 := Op.pick (tmp 40) (const (Value.bool true)) (tmp 54)
          intro ax wx hE hR hF
          have e40 : ax.eval (.tmp 40) = _ := hF 25 (det 40 _) (by decide) (mem4 (mem4 (mem4 (.tail _ (.tail _ (.head _))))))
          have e54 : ax.eval (.tmp 54) = _ := hF 39 (det 54 _) (by decide) (.head _)
          simp [go_sem, BigFrame.eval_const, BigFrame.eval_global, BigFrame.eval_func, ↓IntWalk.iteOmega, ev e40, ev e54, Bool.not_false]
          with_reducible rfl
        apply Build.stop
        refine ⟨by kernel_rfl, .inl ⟨rfl, ?_⟩⟩
        intro ax w2 hE R2 hF
        have e15 : ax.eval (.tmp 15) = _ := hF 0 (det 15 _) (mem16 (mem16 (mem4 (mem4 (.head _)))))
        have e16 : ax.eval (.tmp 16) = _ := hF 1 (det 16 _) (mem16 (mem16 (mem4 (.tail _ (.tail _ (.tail _ (.head _)))))))
        have e17 : ax.eval (.tmp 17) = _ := hF 2 (det 17 _) (mem16 (mem16 (mem4 (.tail _ (.tail _ (.head _))))))
        have e18 : ax.eval (.tmp 18) = _ := hF 3 (det 18 _) (mem16 (mem16 (mem4 (.tail _ (.head _)))))
        have e19 : ax.eval (.tmp 19) = _ := hF 4 (det 19 _) (mem16 (mem16 (mem4 (.head _))))
        have e20 : ax.eval (.tmp 20) = _ := hF 5 (det 20 _) (mem16 (mem16 (.tail _ (.tail _ (.tail _ (.head _))))))
        have e21 : ax.eval (.tmp 21) = _ := hF 6 (det 21 _) (mem16 (mem16 (.tail _ (.tail _ (.head _)))))
        have e22 : ax.eval (.tmp 22) = _ := hF 7 (det 22 _) (mem16 (mem16 (.tail _ (.head _))))
        have e23 : ax.eval (.tmp 23) = _ := hF 8 (det 23 _) (mem16 (mem16 (.head _)))
        have e24 : ax.eval (.tmp 24) = _ := hF 9 (det 24 _) (mem16 (mem4 (mem4 (mem4 (.tail _ (.tail _ (.tail _ (.head _))))))))
        have e25 : ax.eval (.tmp 25) = _ := hF 10 (det 25 _) (mem16 (mem4 (mem4 (mem4 (.tail _ (.tail _ (.head _)))))))
        have e26 : ax.eval (.tmp 26) = _ := hF 11 (det 26 _) (mem16 (mem4 (mem4 (mem4 (.tail _ (.head _))))))
        have e27 : ax.eval (.tmp 27) = _ := hF 12 (det 27 _) (mem16 (mem4 (mem4 (mem4 (.head _)))))
        have e28 : ax.eval (.tmp 28) = _ := hF 13 (det 28 _) (mem16 (mem4 (mem4 (.tail _ (.tail _ (.tail _ (.head _)))))))
        have e29 : ax.eval (.tmp 29) = _ := hF 14 (det 29 _) (mem16 (mem4 (mem4 (.tail _ (.tail _ (.head _))))))
        have e30 : ax.eval (.tmp 30) = _ := hF 15 (det 30 _) (mem16 (mem4 (mem4 (.tail _ (.head _)))))
        have e31 : ax.eval (.tmp 31) = _ := hF 16 (det 31 _) (mem16 (mem4 (mem4 (.head _))))
        have e32 : ax.eval (.tmp 32) = _ := hF 17 (det 32 _) (mem16 (mem4 (.tail _ (.tail _ (.tail _ (.head _))))))
        have e33 : ax.eval (.tmp 33) = _ := hF 18 (det 33 _) (mem16 (mem4 (.tail _ (.tail _ (.head _)))))
        have e34 : ax.eval (.tmp 34) = _ := hF 19 (det 34 _) (mem16 (mem4 (.tail _ (.head _))))
        have e35 : ax.eval (.tmp 35) = _ := hF 20 (det 35 _) (mem16 (mem4 (.head _)))
        have e36 : ax.eval (.tmp 36) = _ := hF 21 (det 36 _) (mem16 (.tail _ (.tail _ (.tail _ (.head _)))))
        have e37 : ax.eval (.tmp 37) = _ := hF 22 (det 37 _) (mem16 (.tail _ (.tail _ (.head _))))
        have e38 : ax.eval (.tmp 38) = _ := hF 23 (det 38 _) (mem16 (.tail _ (.head _)))
        have e39 : ax.eval (.tmp 39) = _ := hF 24 (det 39 _) (mem16 (.head _))
        have e40 : ax.eval (.tmp 40) = _ := hF 25 (det 40 _) (mem4 (mem4 (mem4 (.tail _ (.tail _ (.tail _ (.head _)))))))
        have e41 : ax.eval (.tmp 41) = _ := hF 26 (det 41 _) (mem4 (mem4 (mem4 (.tail _ (.tail _ (.head _))))))
        have e42 : ax.eval (.tmp 42) = _ := hF 27 (det 42 _) (mem4 (mem4 (mem4 (.tail _ (.head _)))))
        have e43 : ax.eval (.tmp 43) = _ := hF 28 (det 43 _) (mem4 (mem4 (mem4 (.head _))))
        have e44 : ax.eval (.tmp 44) = _ := hF 29 (det 44 _) (mem4 (mem4 (.tail _ (.tail _ (.tail _ (.head _))))))
        have e45 : ax.eval (.tmp 45) = _ := hF 30 (det 45 _) (mem4 (mem4 (.tail _ (.tail _ (.head _)))))
        have e46 : ax.eval (.tmp 46) = _ := hF 31 (det 46 _) (mem4 (mem4 (.tail _ (.head _))))
        have e47 : ax.eval (.tmp 47) = _ := hF 32 (det 47 _) (mem4 (mem4 (.head _)))
        have e48 : ax.eval (.tmp 48) = _ := hF 33 (det 48 _) (mem4 (.tail _ (.tail _ (.tail _ (.head _)))))
        have e49 : ax.eval (.tmp 49) = _ := hF 34 (det 49 _) (mem4 (.tail _ (.tail _ (.head _))))
        have e50 : ax.eval (.tmp 50) = _ := hF 35 (det 50 _) (mem4 (.tail _ (.head _)))
        have e51 : ax.eval (.tmp 51) = _ := hF 36 (det 51 _) (mem4 (.head _))
        have e52 : ax.eval (.tmp 52) = _ := hF 37 (det 52 _) (.tail _ (.tail _ (.tail _ (.head _))))
        have e53 : ax.eval (.tmp 53) = _ := hF 38 (det 53 _) (.tail _ (.tail _ (.head _)))
        have e54 : ax.eval (.tmp 54) = _ := hF 39 (det 54 _) (.tail _ (.head _))
        have e55 : ax.eval (.tmp 55) = _ := hF 40 (det 55 _) (.head _)
        rw [AllEq.frame (D := [15, 16, 17, 18, 19, 20, 21, 22, 23, 24, 25, 26, 27, 28, 29, 30, 31, 32, 33, 34, 35, 36, 37, 38, 39, 40, 41, 42, 43, 44, 45, 46, 47, 48, 49, 50, 51, 52, 53, 54, 55]) (AllEq.cons e15 (AllEq.cons e16 (AllEq.cons e17 (AllEq.cons e18 (AllEq.cons e19 (AllEq.cons e20 (AllEq.cons e21 (AllEq.cons e22 (AllEq.cons e23 (AllEq.cons e24 (AllEq.cons e25 (AllEq.cons e26 (AllEq.cons e27 (AllEq.cons e28 (AllEq.cons e29 (AllEq.cons e30 (AllEq.cons e31 (AllEq.cons e32 (AllEq.cons e33 (AllEq.cons e34 (AllEq.cons e35 (AllEq.cons e36 (AllEq.cons e37 (AllEq.cons e38 (AllEq.cons e39 (AllEq.cons e40 (AllEq.cons e41 (AllEq.cons e42 (AllEq.cons e43 (AllEq.cons e44 (AllEq.cons e45 (AllEq.cons e46 (AllEq.cons e47 (AllEq.cons e48 (AllEq.cons e49 (AllEq.cons e50 (AllEq.cons e51 (AllEq.cons e52 (AllEq.cons e53 (AllEq.cons e54 (AllEq.cons e55 (AllEq.nil)))))))))))))))))))))))))))))))))))))))))) hE rfl]
        clear hF hE e15 e16 e17 e18 e19 e20 e21 e22 e23 e24 e25 e26 e27 e28 e29 e30 e31 e32 e33 e34 e35 e36 e37 e38 e39 e40 e41 e42 e43 e44 e45 e46 e47 e48 e49 e50 e51 e52 e53 e54 e55
        simp only [List.foldl_cons, List.foldl_nil, Act.put, List.setIfInBounds_toArray, List.set_cons_succ, List.set_cons_zero]
        have hEx := hEx0.trans R2
        have hG : Hid (GB = false) := HB.out HBAD
        go_wp2_with fail
        go_ret
        exact ⟨by rw [hG.out] <;> rfl, hEx⟩
    · obtain rfl : j = len := by omega
      have hG : Hid (GB = true) := HG.out.2 HJ.out
      go_wp2_with fail
      go_ret
      exact ⟨by rw [hG.out] <;> rfl, hEx0⟩
end Go.Proofs.Ytojilbacloegjaa
