/- place.Good, of one place at most. Printed by gen_placegood.py. -/
import Derived.Test.YtngehbhhpkkijaaKPlaceList24
namespace Go.Proofs.Ytngehbhhpkkijaa
attribute [local simp] BigFrame.eval_const BigFrame.eval_global BigFrame.eval_func
set_option linter.unusedVariables false
set_option linter.unusedSimpArgs false
open Go.RowKit
set_option maxRecDepth 100000 in
set_option maxHeartbeats 8000000 in
theorem pgood_any (A : Option Addr) (len cap : Nat) (L : List PlD) (s0 s1 : Int) (w : World) (hlen : L.length = len) (hm : len ≤ 1000000) (hrow : Row w A 3 plC L) (hx : ∀ x ∈ L, wfP x) (h1 : len ≤ 1) (hgl : ∀ i, i < L.length → GoodPl (cAt L i) (tAt L i) (sAt L i)) :
    Calls Try.prog 51 #[.slice A len cap, .agg #[.int .i64 s0, .int .i64 s1]] w fun e w' => e = .returned (.bool (goodPls L s0 s1)) ∧ Ext w w' := by
  obtain ⟨GB, hGB⟩ : ∃ g, goodPls L s0 s1 = g := ⟨_, rfl⟩
  have hgd : GB = true ↔ ∀ i, i < len → okP L s0 s1 i := by rw [← hGB, ← hlen]; unfold goodPls; simp
  rw [hGB]
  have HG := Lib.hid hgd
  have hxx : ∀ j, j < L.length → wfP (cAt L j, tAt L j, sAt L j) := fun j hj => by
    have := hx _ (List.getElem_mem hj)
    simpa [cAt, tAt, sAt, List.getD, hj] using this
  have HXX := Lib.hid hxx
  clear hgd hGB hx hxx
  have hmm := @run_makeMap Try.prog
  go_enter Try.func51, Try.ntmps51
  go_upto_region 3 with fail
  clear hmm
  go_loopw [6, 7, 11] (fun _ _ i wr => ∃ j : Nat, i = .int .i64 j ∧ j ≤ len ∧ Ext w wr ∧ Blk wr w.heap.size 115 #[.int .i64 s0, .int .i64 s1] ∧ SMap wr (w.heap.size + 1) j (seenB L j) ∧ Hid (∀ i, i < j → okP L s0 s1 i)) (fun _ _ i _ => len - (intOf i).toNat)
  case atStart => exact ⟨0, rfl, by omega, by (repeat (first | with_reducible exact Below.refl _ _ | with_reducible assumption | with_reducible apply Below.drew | with_reducible apply Z0e | (with_reducible refine Z0n ?_ ?_; focus ((try simp); (try omega); done)) | (with_reducible refine Z0o ?_ ?_; focus ((try simp); (try omega); done)))), (Blk.new _ _ _).alloc _, by have h0 := SMap.made (w.alloc (.cells #[.int .i64 s0, .int .i64 s1] 115)); rw [World.size_alloc, ← seenB_zero L] at h0; exact h0, fun i hi => absurd hi (by omega)⟩
  case round =>
    obtain ⟨j, rfl, hj, hEx0, hA0, HM0, HJ⟩ := hrel
    by_cases hlt : j < len
    · have hjx : j < L.length := by omega
      obtain ⟨b0, o0, rfl, hlt0⟩ := hrow.p_in hEx0 hjx
      obtain ⟨q0, q1, q2⟩ := hrow.p_at hEx0 hjx
      have hwf : (Lit.int .i64 (cAt L j)).wf = true ∧ (Lit.int .i64 (tAt L j)).wf = true ∧ (Lit.int .i64 (sAt L j)).wf = true := HXX.out j hjx
      obtain ⟨wfc, wft, wfs⟩ := hwf
      have hstep : okP L s0 s1 j → ∀ i, i < j + 1 → okP L s0 s1 i := fun h i hi => by
        by_cases e : i = j
        · subst e; exact h
        · exact HJ.out i (by omega)
      have HS := Lib.hid hstep
      have hbad : ¬ okP L s0 s1 j → GB = false := fun h => by
        cases GB with
        | false => rfl
        | true => exact absurd (HG.out.1 rfl j (by omega)) h
      have HB := Lib.hid hbad
      have HSM := Lib.hid (fun (W : World) (h : SMap W (w.heap.size + 1) (j + 1) (fun x y => (tAt L j == x && sAt L j == y) || seenB L j x y)) => (seenB_step L j hjx ▸ h : SMap W (w.heap.size + 1) (j + 1) (seenB L (j + 1))))
      obtain ⟨c, hc⟩ : ∃ c, cAt L j = c := ⟨_, rfl⟩
      obtain ⟨t, ht⟩ : ∃ t, tAt L j = t := ⟨_, rfl⟩
      obtain ⟨s, hs⟩ : ∃ s, sAt L j = s := ⟨_, rfl⟩
      have HC := Lib.hid hc
      have HT := Lib.hid ht
      have HSS := Lib.hid hs
      rw [hc] at q0 wfc
      rw [ht] at q1 wft HSM
      rw [hs] at q2 wfs HSM
      have hE1 := hEx0.trans (Ext.alloc wr (.cells #[.int .i64 c, .int .i64 t, .int .i64 s] 110))
      have HX := Lib.hid (Blk.new wr 110 #[.int .i64 c, .int .i64 t, .int .i64 s])
      have HA := Lib.hid (hA0.alloc (.cells #[.int .i64 c, .int .i64 t, .int .i64 s] 110))
      have HM := Lib.hid (HM0.ext (Ext.alloc wr (.cells #[.int .i64 c, .int .i64 t, .int .i64 s] 110)))
      have hCA := fun W => can_any c t s W
      have HOKI : GoodPl c t s → s < limOf s0 s1 t → seenB L j t s = false → (j = 0 ∨ cAt L (j - 1) < c) → okP L s0 s1 j := fun a b d e => by unfold okP; rw [hc, ht, hs]; exact ⟨a, b, d, e⟩
      have HOKE : okP L s0 s1 j → GoodPl c t s ∧ s < limOf s0 s1 t ∧ seenB L j t s = false ∧ (j = 0 ∨ cAt L (j - 1) < c) := fun h => by unfold okP at h; rw [hc, ht, hs] at h; exact h
      have HOKI := Lib.hid HOKI
      have HOKE := Lib.hid HOKE
      have hszA : w.heap.size < wr.heap.size := hA0.lt
      clear hstep hbad hc ht hs hA0 HM0 wfc
      cases j with
      | zero =>
        rw [Nat.zero_mul, Nat.add_zero] at q0 q1 q2
        go_upto_region 5 with fail
        generalize wr.alloc (.cells #[.int .i64 c, .int .i64 t, .int .i64 s] 110) = w1 at HX HA HM hE1 ⊢
        clear q0 q1 q2
        by_cases hg : GoodPl c t s
        · rw [Z1s hg] at hCA
          have HCA := Lib.hid hCA
          obtain ⟨T, hTt, hT⟩ : ∃ T : Nat, t = T ∧ T < 2 := tier_nat hg
          have Hg := Lib.hid hg
          clear hCA hg
          subst hTt
          obtain ⟨lm, hlm⟩ : ∃ l, limOf s0 s1 (T : Int) = l := ⟨_, rfl⟩
          have HLM := Lib.hid hlm
          by_cases hl : s < lm
          · have dl : decide (lm ≤ s) = false := by rw [decide_eq_false_iff_not]; omega
            have Hl := Lib.hid hl
            clear hl
            by_cases hseen : seenB L 0 (T : Int) s = true
            · exact absurd hseen (by rw [seenB_zero]; exact Bool.noConfusion)
            · have hseen : seenB L 0 (T : Int) s = false := by simpa using hseen
              have HOK : okP L s0 s1 0 := HOKI.out Hg.out (by rw [HLM.out]; exact Hl.out) hseen (.inl rfl)
              refine Z0c (R := Ext) (w0 := w1) [[], [0], [0, 1], [0, 1, 2], [0, 1, 2, 3], [0, 1, 2, 3, 4], [0, 1, 2, 3, 4, 5], [0, 1, 2, 3], [0, 1, 2, 3, 7], [0, 1, 2, 3, 7, 8], [0, 1, 2, 3, 7, 8, 9], [0, 1, 2, 3, 7, 8, 9, 10], [0, 1, 2, 3, 4, 5, 6, 7, 8, 9, 10, 11], [0, 1, 2, 3, 4, 5, 6, 7, 8, 9, 10, 11, 12], [0, 1, 2, 3, 4, 5, 6, 7, 8, 9, 10, 11, 12, 13], [0, 1, 2, 3, 4, 5, 6, 7, 8, 9, 10, 11, 12, 13, 14], [0, 1, 2, 3, 4, 5, 6, 7, 8, 9, 10, 11, 12, 13, 14], [0, 1, 2, 3, 4, 5, 6, 7, 8, 9, 10, 11, 12, 13, 14, 16], [0, 1, 2, 3, 4, 5, 6, 7, 8, 9, 10, 11, 12, 13, 14, 15, 16, 17], [0, 1, 2, 3, 4, 5, 6, 7, 8, 9, 10, 11, 12, 13, 14, 15, 16, 17, 18], [0, 1, 2, 3, 4, 5, 6, 7, 8, 9, 10, 11, 12, 13, 14, 15, 16, 17, 18, 19], [0, 1, 2, 3, 4, 5, 6, 7, 8, 9, 10, 11, 12, 13, 14, 15, 16, 17, 18, 19, 20], [0, 1, 2, 3, 4, 5, 6, 7, 8, 9, 10, 11, 12, 13, 14, 15, 16, 17, 18, 19, 20, 21], [0, 1, 2, 3, 4, 5, 6, 7, 8, 9, 10, 11, 12, 13, 14, 15, 16, 17, 18, 19, 20, 21, 22], [0, 1, 2, 3, 4, 5, 6, 7, 8, 9, 10, 11, 12, 13, 14, 15, 16, 17, 18, 19, 20, 21, 22, 23], [0, 1, 2, 3, 4, 5, 6, 7, 8, 9, 10, 11, 12, 13, 14, 15, 16, 17, 18, 19, 20, 21, 22, 23], [0, 1, 2, 3, 4, 5, 6, 7, 8, 9, 10, 11, 12, 13, 14, 15, 16, 17, 18, 19, 20, 21, 22, 23, 25], [0, 1, 2, 3, 4, 5, 6, 7, 8, 9, 10, 11, 12, 13, 14, 15, 16, 17, 18, 19, 20, 21, 22, 23, 24, 25, 26], [0, 1, 2, 3, 4, 5, 6, 7, 8, 9, 10, 11, 12, 13, 14, 15, 16, 17, 18, 19, 20, 21, 22, 23, 24, 25, 26, 27], [0, 1, 2, 3, 4, 5, 6, 7, 8, 9, 10, 11, 12, 13, 14, 15, 16, 17, 18, 19, 20, 21, 22, 23, 24, 25, 26, 27, 28], [0, 1, 2, 3, 4, 5, 6, 7, 8, 9, 10, 11, 12, 13, 14, 15, 16, 17, 18, 19, 20, 21, 22, 23], [0, 1, 2, 3, 4, 5, 6, 7, 8, 9, 10, 11, 12, 13, 14, 15, 16, 17, 18, 19, 20, 21, 22, 23, 30], [0, 1, 2, 3, 4, 5, 6, 7, 8, 9, 10, 11, 12, 13, 14, 15, 16, 17, 18, 19, 20, 21, 22, 23, 24, 25, 26, 27, 28, 29, 30, 31], [0, 1, 2, 3, 4, 5, 6, 7, 8, 9, 10, 11, 12, 13, 14, 15, 16, 17, 18, 19, 20, 21, 22, 23, 24, 25, 26, 27, 28, 29, 30, 31, 32], [0, 1, 2, 3, 4, 5, 6, 7, 8, 9, 10, 11, 12, 13, 14, 15, 16, 17, 18, 19, 20, 21, 22, 23, 24, 25, 26, 27, 28, 29, 30, 31, 32, 33]] [16, 17, 18, 19, 20, 21, 22, 23, 24, 25, 26, 27, 28, 29, 30, 31, 32, 33, 34, 35, 36, 37, 38, 39, 40, 41, 42, 43, 44, 45, 46, 47, 48, 49, 50] Ext.refl (fun _ _ _ => Ext.trans) (Ext.drew _) (by kernel_rfl) ?_
              apply Build.det 16 Ext.refl (by rfl) (by rfl) rfl
              case h =>
                intro ax wx hE hR hF
                have e7 : ax.eval (.tmp 7) = .pointer (some ⟨wr.heap.size, 0, none⟩) := hE.eval 7 (by rfl) rfl
                have hX2 := HX.out.ext hR; have q0 := hX2.cell 0; have q1 := hX2.cell 1; have q2 := hX2.cell 2; simp at q0 q1 q2; have qa := (HA.out.ext hR).cell T; rw [lim_at T hT] at qa
                simp [go_sem, ↓IntWalk.iteOmega, ev e7, dl, hlm, q0, q1, q2, qa]
                with_reducible rfl
              apply Build.call 17 Ext.refl (by rfl) (by rfl) rfl
              case h =>
                intro ax wx hE hR hF
                have e16 := hF 0 (det 16 _) (by decide) (.head _)
                simp [go_sem, ↓IntWalk.iteOmega, ev e16, dl, hlm]
                with_reducible exact ⟨rfl, rfl⟩
              case hc => intro wx hR; with_reducible exact HCA.out wx
              apply Build.det 18 Ext.refl (by rfl) (by rfl) rfl
              case h =>
                intro ax wx hE hR hF
                have e17 := hF 1 (det 17 _) (by decide) (.head _)
                simp [go_sem, ↓IntWalk.iteOmega, ev e17, dl, hlm]
                with_reducible rfl
              apply Build.det 19 Ext.refl (by rfl) (by rfl) rfl
              case h =>
                intro ax wx hE hR hF
                have e18 := hF 2 (det 18 _) (by decide) (.head _)
                simp [go_sem, ↓IntWalk.iteOmega, ev e18, dl, hlm]
                with_reducible rfl
              apply Build.detg 20 Ext.refl (by rfl) (by rfl) rfl rfl
              case h =>
                intro ax wx hE hR hF
                have e7 : ax.eval (.tmp 7) = .pointer (some ⟨wr.heap.size, 0, none⟩) := hE.eval 7 (by rfl) rfl
                have e19 := hF 3 (det 19 _) (by decide) (.head _)
                refine ⟨e19, ?_⟩
                simp [go_sem, ↓IntWalk.iteOmega, ev e7, ev e19, dl, hlm]
                with_reducible rfl
              apply Build.detg 21 Ext.refl (by rfl) (by rfl) rfl rfl
              case h =>
                intro ax wx hE hR hF
                have e19 := hF 3 (det 19 _) (by decide) (.tail _ (.head _))
                have e20 := hF 4 (det 20 _) (by decide) (.head _)
                refine ⟨e19, ?_⟩
                simp [go_sem, ↓IntWalk.iteOmega, ev e19, ev e20, dl, hlm]
                with_reducible rfl
              apply Build.detg 22 Ext.refl (by rfl) (by rfl) rfl rfl
              case h =>
                intro ax wx hE hR hF
                have e19 := hF 3 (det 19 _) (by decide) (.tail _ (.tail _ (.head _)))
                have e21 := hF 5 (det 21 _) (by decide) (.head _)
                have hX2 := HX.out.ext hR; have q0 := hX2.cell 0; have q1 := hX2.cell 1; have q2 := hX2.cell 2; simp at q0 q1 q2; have qa := (HA.out.ext hR).cell T; rw [lim_at T hT] at qa
                refine ⟨e19, ?_⟩
                simp [go_sem, ↓IntWalk.iteOmega, ev e19, ev e21, dl, hlm, q0, q1, q2, qa]
                with_reducible rfl
              apply Build.detg 23 Ext.refl (by rfl) (by rfl) rfl rfl
              case h =>
                intro ax wx hE hR hF
                have e7 : ax.eval (.tmp 7) = .pointer (some ⟨wr.heap.size, 0, none⟩) := hE.eval 7 (by rfl) rfl
                have e19 := hF 3 (det 19 _) (by decide) (.tail _ (.tail _ (.tail _ (.head _))))
                refine ⟨e19, ?_⟩
                simp [go_sem, ↓IntWalk.iteOmega, ev e7, ev e19, dl, hlm]
                with_reducible rfl
              apply Build.detg 24 Ext.refl (by rfl) (by rfl) rfl rfl
              case h =>
                intro ax wx hE hR hF
                have e19 := hF 3 (det 19 _) (by decide) (mem4 (.head _))
                have e23 := hF 7 (det 23 _) (by decide) (.head _)
                refine ⟨e19, ?_⟩
                simp [go_sem, ↓IntWalk.iteOmega, ev e19, ev e23, dl, hlm]
                with_reducible rfl
              apply Build.detg 25 Ext.refl (by rfl) (by rfl) rfl rfl
              case h =>
                intro ax wx hE hR hF
                have e19 := hF 3 (det 19 _) (by decide) (mem4 (.tail _ (.head _)))
                have e24 := hF 8 (det 24 _) (by decide) (.head _)
                have hX2 := HX.out.ext hR; have q0 := hX2.cell 0; have q1 := hX2.cell 1; have q2 := hX2.cell 2; simp at q0 q1 q2; have qa := (HA.out.ext hR).cell T; rw [lim_at T hT] at qa
                refine ⟨e19, ?_⟩
                simp [go_sem, ↓IntWalk.iteOmega, ev e19, ev e24, dl, hlm, q0, q1, q2, qa]
                with_reducible rfl
              apply Build.detg 26 Ext.refl (by rfl) (by rfl) rfl rfl
              case h =>
                intro ax wx hE hR hF
                have e3 : ax.eval (.tmp 3) = .pointer (some ⟨w.heap.size, 0, none⟩) := hE.eval 3 (by rfl) rfl
                have e19 := hF 3 (det 19 _) (by decide) (mem4 (.tail _ (.tail _ (.head _))))
                have e25 := hF 9 (det 25 _) (by decide) (.head _)
                refine ⟨e19, ?_⟩
                simp [go_sem, ↓IntWalk.iteOmega, ev e3, ev e19, ev e25, dl, hlm]
                with_reducible rfl
              apply Build.detg 27 Ext.refl (by rfl) (by rfl) rfl rfl
              case h =>
                intro ax wx hE hR hF
                have e19 := hF 3 (det 19 _) (by decide) (mem4 (.tail _ (.tail _ (.tail _ (.head _)))))
                have e26 := hF 10 (det 26 _) (by decide) (.head _)
                have hX2 := HX.out.ext hR; have q0 := hX2.cell 0; have q1 := hX2.cell 1; have q2 := hX2.cell 2; simp at q0 q1 q2; have qa := (HA.out.ext hR).cell T; rw [lim_at T hT] at qa
                refine ⟨e19, ?_⟩
                simp [go_sem, ↓IntWalk.iteOmega, ev e19, ev e26, dl, hlm, q0, q1, q2, qa]
                with_reducible rfl
              apply Build.detg 28 Ext.refl (by rfl) (by rfl) rfl rfl
              case h =>
                intro ax wx hE hR hF
                have e19 := hF 3 (det 19 _) (by decide) (mem4 (mem4 (.head _)))
                have e22 := hF 6 (det 22 _) (by decide) (mem4 (.tail _ (.head _)))
                have e27 := hF 11 (det 27 _) (by decide) (.head _)
                refine ⟨e19, ?_⟩
                simp [go_sem, ↓IntWalk.iteOmega, ev e19, ev e22, ev e27, dl, hlm]
                with_reducible rfl
              apply Build.det 29 Ext.refl (by rfl) (by rfl) rfl
              case h =>
                intro ax wx hE hR hF
                have e19 := hF 3 (det 19 _) (by decide) (mem4 (mem4 (.tail _ (.head _))))
                have e28 := hF 12 (det 28 _) (by decide) (.head _)
                simp [go_sem, ↓IntWalk.iteOmega, ev e19, ev e28, dl, hlm]
                with_reducible rfl
              apply Build.det 30 Ext.refl (by rfl) (by rfl) rfl
              case h =>
                intro ax wx hE hR hF
                have e29 := hF 13 (det 29 _) (by decide) (.head _)
                simp [go_sem, ↓IntWalk.iteOmega, ev e29, dl, hlm]
                with_reducible rfl
              apply Build.detg 31 Ext.refl (by rfl) (by rfl) rfl rfl
              case h =>
                intro ax wx hE hR hF
                have e5 : ax.eval (.tmp 5) = .map (some (w.heap.size + 1)) := hE.eval 5 (by rfl) rfl
                have e30 := hF 14 (det 30 _) (by decide) (.head _)
                refine ⟨e30, ?_⟩
                simp [go_sem, ↓IntWalk.iteOmega, ev e5, ev e30, dl, hlm]
                with_reducible rfl
              apply Build.detg 32 Ext.refl (by rfl) (by rfl) rfl rfl
              case h =>
                intro ax wx hE hR hF
                have e7 : ax.eval (.tmp 7) = .pointer (some ⟨wr.heap.size, 0, none⟩) := hE.eval 7 (by rfl) rfl
                have e30 := hF 14 (det 30 _) (by decide) (.tail _ (.head _))
                refine ⟨e30, ?_⟩
                simp [go_sem, ↓IntWalk.iteOmega, ev e7, ev e30, dl, hlm]
                with_reducible rfl
              apply Build.detg 33 Ext.refl (by rfl) (by rfl) rfl rfl
              case h =>
                intro ax wx hE hR hF
                have e30 := hF 14 (det 30 _) (by decide) (.tail _ (.tail _ (.head _)))
                have e32 := hF 16 (det 32 _) (by decide) (.head _)
                have hX2 := HX.out.ext hR; have q0 := hX2.cell 0; have q1 := hX2.cell 1; have q2 := hX2.cell 2; simp at q0 q1 q2; have qa := (HA.out.ext hR).cell T; rw [lim_at T hT] at qa
                refine ⟨e30, ?_⟩
                simp [go_sem, ↓IntWalk.iteOmega, ev e30, ev e32, dl, hlm, q0, q1, q2, qa]
                with_reducible rfl
              apply Build.detg 34 Ext.refl (by rfl) (by rfl) rfl rfl
              case h =>
                intro ax wx hE hR hF
                have e30 := hF 14 (det 30 _) (by decide) (.tail _ (.tail _ (.tail _ (.head _))))
                have e31 := hF 15 (det 31 _) (by decide) (.tail _ (.tail _ (.head _)))
                have e33 := hF 17 (det 33 _) (by decide) (.head _)
                have hlk := (HM.out.ext hR).look wft wfs; rw [hseen] at hlk
                refine ⟨e30, ?_⟩
                simp [go_sem, ↓IntWalk.iteOmega, ev e30, ev e31, ev e33, dl, hlm, hlk]
                with_reducible rfl
              apply Build.det 35 Ext.refl (by rfl) (by rfl) rfl
              case h =>
                intro ax wx hE hR hF
                have e30 := hF 14 (det 30 _) (by decide) (mem4 (.head _))
                have e34 := hF 18 (det 34 _) (by decide) (.head _)
                simp [go_sem, ↓IntWalk.iteOmega, ev e30, ev e34, dl, hlm]
                with_reducible rfl
              apply Build.det 36 Ext.refl (by rfl) (by rfl) rfl
              case h =>
                intro ax wx hE hR hF
                have e35 := hF 19 (det 35 _) (by decide) (.head _)
                simp [go_sem, ↓IntWalk.iteOmega, ev e35, dl, hlm]
                with_reducible rfl
              apply Build.detg 37 Ext.refl (by rfl) (by rfl) rfl rfl
              case h =>
                intro ax wx hE hR hF
                have e6 : ax.eval (.tmp 6) = .int .i64 ((0 : Nat) : Int) := hE.eval 6 (by rfl) rfl
                have e36 := hF 20 (det 36 _) (by decide) (.head _)
                refine ⟨e36, ?_⟩
                simp [go_sem, ↓IntWalk.iteOmega, ev e6, ev e36, dl, hlm]
                with_reducible rfl
              apply Build.detg 38 Ext.refl (by rfl) (by rfl) rfl rfl
              case h =>
                intro ax wx hE hR hF
                have e36 := hF 20 (det 36 _) (by decide) (.tail _ (.head _))
                have e37 := hF 21 (det 37 _) (by decide) (.head _)
                refine ⟨e36, ?_⟩
                simp [go_sem, ↓IntWalk.iteOmega, ev e36, ev e37, dl, hlm]
                with_reducible rfl
              apply Build.detg 39 Ext.refl (by rfl) (by rfl) rfl rfl
              case h =>
                intro ax wx hE hR hF
                have e36 := hF 20 (det 36 _) (by decide) (.tail _ (.tail _ (.head _)))
                have e38 := hF 22 (det 38 _) (by decide) (.head _)
                refine ⟨e36, ?_⟩
                simp [go_sem, ↓IntWalk.iteOmega, ev e36, ev e38, dl, hlm]
                with_reducible rfl
              refine Build.skip 40 (by rfl) (by rfl) rfl rfl ?_ ?_
              · intro ax wx hE hR hF
                have e39 := hF 23 (det 39 _) (by decide) (.head _)
                exact e39
              refine Build.skip 41 (by rfl) (by rfl) rfl rfl ?_ ?_
              · intro ax wx hE hR hF
                have e39 := hF 23 (det 39 _) (by decide) (.tail _ (.head _))
                exact e39
              refine Build.skip 42 (by rfl) (by rfl) rfl rfl ?_ ?_
              · intro ax wx hE hR hF
                have e39 := hF 23 (det 39 _) (by decide) (.tail _ (.tail _ (.head _)))
                exact e39
              refine Build.skip 43 (by rfl) (by rfl) rfl rfl ?_ ?_
              · intro ax wx hE hR hF
                have e39 := hF 23 (det 39 _) (by decide) (.tail _ (.tail _ (.tail _ (.head _))))
                exact e39
              refine Build.skip 44 (by rfl) (by rfl) rfl rfl ?_ ?_
              · intro ax wx hE hR hF
                have e39 := hF 23 (det 39 _) (by decide) (mem4 (.head _))
                exact e39
              refine Build.skip 45 (by rfl) (by rfl) rfl rfl ?_ ?_
              · intro ax wx hE hR hF
                have e39 := hF 23 (det 39 _) (by decide) (mem4 (.tail _ (.head _)))
                exact e39
              refine Build.skip 46 (by rfl) (by rfl) rfl rfl ?_ ?_
              · intro ax wx hE hR hF
                have e39 := hF 23 (det 39 _) (by decide) (mem4 (.tail _ (.tail _ (.head _))))
                exact e39
              refine Build.skip 47 (by rfl) (by rfl) rfl rfl ?_ ?_
              · intro ax wx hE hR hF
                have e39 := hF 23 (det 39 _) (by decide) (mem4 (.tail _ (.tail _ (.tail _ (.head _)))))
                exact e39
              refine Build.skip 48 (by rfl) (by rfl) rfl rfl ?_ ?_
              · intro ax wx hE hR hF
                have e39 := hF 23 (det 39 _) (by decide) (mem4 (mem4 (.head _)))
                exact e39
              apply Build.detg 49 Ext.refl (by rfl) (by rfl) rfl rfl
              case h =>
                intro ax wx hE hR hF
                have e36 := hF 20 (det 36 _) (by decide) (mem4 (mem4 (mem4 (.head _))))
                have e39 := hF 23 (det 39 _) (by decide) (mem4 (mem4 (.tail _ (.head _))))
                have e48 := hF 32 (det 48 _) (by decide) (.head _)
                refine ⟨e36, ?_⟩
                simp [go_sem, ↓IntWalk.iteOmega, ev e36, ev e39, ev e48, dl, hlm]
                with_reducible rfl
              apply Build.det 50 Ext.refl (by rfl) (by rfl) rfl
              case h =>
                intro ax wx hE hR hF
                have e36 := hF 20 (det 36 _) (by decide) (mem4 (mem4 (mem4 (.tail _ (.head _)))))
                have e49 := hF 33 (det 49 _) (by decide) (.head _)
                simp [go_sem, ↓IntWalk.iteOmega, ev e36, ev e49, dl, hlm]
                with_reducible rfl
              apply Build.stop
              refine ⟨by kernel_rfl, .inl ⟨rfl, ?_⟩⟩
              intro ax w2 hE R2 hF
              have e16 := hF 0 (det 16 _) (mem16 (mem16 (.tail _ (.tail _ (.head _)))))
              have e17 := hF 1 (det 17 _) (mem16 (mem16 (.tail _ (.head _))))
              have e18 := hF 2 (det 18 _) (mem16 (mem16 (.head _)))
              have e19 := hF 3 (det 19 _) (mem16 (mem4 (mem4 (mem4 (.tail _ (.tail _ (.tail _ (.head _))))))))
              have e20 := hF 4 (det 20 _) (mem16 (mem4 (mem4 (mem4 (.tail _ (.tail _ (.head _)))))))
              have e21 := hF 5 (det 21 _) (mem16 (mem4 (mem4 (mem4 (.tail _ (.head _))))))
              have e22 := hF 6 (det 22 _) (mem16 (mem4 (mem4 (mem4 (.head _)))))
              have e23 := hF 7 (det 23 _) (mem16 (mem4 (mem4 (.tail _ (.tail _ (.tail _ (.head _)))))))
              have e24 := hF 8 (det 24 _) (mem16 (mem4 (mem4 (.tail _ (.tail _ (.head _))))))
              have e25 := hF 9 (det 25 _) (mem16 (mem4 (mem4 (.tail _ (.head _)))))
              have e26 := hF 10 (det 26 _) (mem16 (mem4 (mem4 (.head _))))
              have e27 := hF 11 (det 27 _) (mem16 (mem4 (.tail _ (.tail _ (.tail _ (.head _))))))
              have e28 := hF 12 (det 28 _) (mem16 (mem4 (.tail _ (.tail _ (.head _)))))
              have e29 := hF 13 (det 29 _) (mem16 (mem4 (.tail _ (.head _))))
              have e30 := hF 14 (det 30 _) (mem16 (mem4 (.head _)))
              have e31 := hF 15 (det 31 _) (mem16 (.tail _ (.tail _ (.tail _ (.head _)))))
              have e32 := hF 16 (det 32 _) (mem16 (.tail _ (.tail _ (.head _))))
              have e33 := hF 17 (det 33 _) (mem16 (.tail _ (.head _)))
              have e34 := hF 18 (det 34 _) (mem16 (.head _))
              have e35 := hF 19 (det 35 _) (mem4 (mem4 (mem4 (.tail _ (.tail _ (.tail _ (.head _)))))))
              have e36 := hF 20 (det 36 _) (mem4 (mem4 (mem4 (.tail _ (.tail _ (.head _))))))
              have e37 := hF 21 (det 37 _) (mem4 (mem4 (mem4 (.tail _ (.head _)))))
              have e38 := hF 22 (det 38 _) (mem4 (mem4 (mem4 (.head _))))
              have e39 := hF 23 (det 39 _) (mem4 (mem4 (.tail _ (.tail _ (.tail _ (.head _))))))
              have e40 := hF 24 (det 40 _) (mem4 (mem4 (.tail _ (.tail _ (.head _)))))
              have e41 := hF 25 (det 41 _) (mem4 (mem4 (.tail _ (.head _))))
              have e42 := hF 26 (det 42 _) (mem4 (mem4 (.head _)))
              have e43 := hF 27 (det 43 _) (mem4 (.tail _ (.tail _ (.tail _ (.head _)))))
              have e44 := hF 28 (det 44 _) (mem4 (.tail _ (.tail _ (.head _))))
              have e45 := hF 29 (det 45 _) (mem4 (.tail _ (.head _)))
              have e46 := hF 30 (det 46 _) (mem4 (.head _))
              have e47 := hF 31 (det 47 _) (.tail _ (.tail _ (.tail _ (.head _))))
              have e48 := hF 32 (det 48 _) (.tail _ (.tail _ (.head _)))
              have e49 := hF 33 (det 49 _) (.tail _ (.head _))
              have e50 := hF 34 (det 50 _) (.head _)
              rw [AllEq.frame (D := [16, 17, 18, 19, 20, 21, 22, 23, 24, 25, 26, 27, 28, 29, 30, 31, 32, 33, 34, 35, 36, 37, 38, 39, 40, 41, 42, 43, 44, 45, 46, 47, 48, 49, 50]) (AllEq.cons e16 (AllEq.cons e17 (AllEq.cons e18 (AllEq.cons e19 (AllEq.cons e20 (AllEq.cons e21 (AllEq.cons e22 (AllEq.cons e23 (AllEq.cons e24 (AllEq.cons e25 (AllEq.cons e26 (AllEq.cons e27 (AllEq.cons e28 (AllEq.cons e29 (AllEq.cons e30 (AllEq.cons e31 (AllEq.cons e32 (AllEq.cons e33 (AllEq.cons e34 (AllEq.cons e35 (AllEq.cons e36 (AllEq.cons e37 (AllEq.cons e38 (AllEq.cons e39 (AllEq.cons e40 (AllEq.cons e41 (AllEq.cons e42 (AllEq.cons e43 (AllEq.cons e44 (AllEq.cons e45 (AllEq.cons e46 (AllEq.cons e47 (AllEq.cons e48 (AllEq.cons e49 (AllEq.cons e50 (AllEq.nil)))))))))))))))))))))))))))))))))))) hE rfl]
              clear hF hE e16 e17 e18 e19 e20 e21 e22 e23 e24 e25 e26 e27 e28 e29 e30 e31 e32 e33 e34 e35 e36 e37 e38 e39 e40 e41 e42 e43 e44 e45 e46 e47 e48 e49 e50
              simp only [List.foldl_cons, List.foldl_nil, Act.put, List.setIfInBounds_toArray, List.set_cons_succ, List.set_cons_zero]
              have hEx := hE1.trans R2
              have hA2 := HA.out.ext R2
              have hX2 := HX.out.ext R2
              have HM2 := HM.out.ext R2
              have q0 := hX2.cell 0
              have q1 := hX2.cell 1
              have q2 := hX2.cell 2
              simp at q0 q1 q2
              clear hX2
              go_wp2_with (at_mapUpdate; refine wpList_smap_store rfl _ _ _ rfl HM2 (by unfold maxLen; omega) wft wfs rfl rfl rfl ?_; intro w3 HM3 hg3)
              have hEx3 : Ext w w3 := hEx.grown hg3 hEx.size (fun k e => by injection e with e; omega)
              have hA3 := hA2.grown hg3 (by intro e; injection e with e; omega)
              go_roundw
              case rel => exact ⟨_, by go_num, by omega, hEx3, hA3, HSM.out _ HM3, HS.out HOK⟩
              case measure => simp [intOf]; omega
          · have dl : decide (lm ≤ s) = true := by rw [decide_eq_true_iff]; omega
            have HBAD : ¬ okP L s0 s1 0 := fun h => by have h1 := (HOKE.out h).2.1; rw [HLM.out] at h1; omega
            clear hl
            refine Z0c (R := Ext) (w0 := w1) [[], [0], [0, 1], [0, 1, 2], [0, 1, 2, 3], [0, 1, 2, 3, 4], [0, 1, 2, 3, 4, 5], [0, 1, 2, 3], [0, 1, 2, 3, 7], [0, 1, 2, 3, 7, 8], [0, 1, 2, 3, 7, 8, 9], [0, 1, 2, 3, 7, 8, 9, 10], [0, 1, 2, 3, 4, 5, 6, 7, 8, 9, 10, 11], [0, 1, 2, 3, 4, 5, 6, 7, 8, 9, 10, 11, 12], [0, 1, 2, 3, 4, 5, 6, 7, 8, 9, 10, 11, 12, 13], [0, 1, 2, 3, 4, 5, 6, 7, 8, 9, 10, 11, 12, 13, 14], [0, 1, 2, 3, 4, 5, 6, 7, 8, 9, 10, 11, 12, 13, 14], [0, 1, 2, 3, 4, 5, 6, 7, 8, 9, 10, 11, 12, 13, 14, 16], [0, 1, 2, 3, 4, 5, 6, 7, 8, 9, 10, 11, 12, 13, 14, 15, 16, 17], [0, 1, 2, 3, 4, 5, 6, 7, 8, 9, 10, 11, 12, 13, 14, 15, 16, 17, 18], [0, 1, 2, 3, 4, 5, 6, 7, 8, 9, 10, 11, 12, 13, 14, 15, 16, 17, 18, 19], [0, 1, 2, 3, 4, 5, 6, 7, 8, 9, 10, 11, 12, 13, 14, 15, 16, 17, 18, 19, 20], [0, 1, 2, 3, 4, 5, 6, 7, 8, 9, 10, 11, 12, 13, 14, 15, 16, 17, 18, 19, 20, 21], [0, 1, 2, 3, 4, 5, 6, 7, 8, 9, 10, 11, 12, 13, 14, 15, 16, 17, 18, 19, 20, 21, 22], [0, 1, 2, 3, 4, 5, 6, 7, 8, 9, 10, 11, 12, 13, 14, 15, 16, 17, 18, 19, 20, 21, 22, 23], [0, 1, 2, 3, 4, 5, 6, 7, 8, 9, 10, 11, 12, 13, 14, 15, 16, 17, 18, 19, 20, 21, 22, 23], [0, 1, 2, 3, 4, 5, 6, 7, 8, 9, 10, 11, 12, 13, 14, 15, 16, 17, 18, 19, 20, 21, 22, 23, 25], [0, 1, 2, 3, 4, 5, 6, 7, 8, 9, 10, 11, 12, 13, 14, 15, 16, 17, 18, 19, 20, 21, 22, 23, 24, 25, 26], [0, 1, 2, 3, 4, 5, 6, 7, 8, 9, 10, 11, 12, 13, 14, 15, 16, 17, 18, 19, 20, 21, 22, 23, 24, 25, 26, 27], [0, 1, 2, 3, 4, 5, 6, 7, 8, 9, 10, 11, 12, 13, 14, 15, 16, 17, 18, 19, 20, 21, 22, 23, 24, 25, 26, 27, 28], [0, 1, 2, 3, 4, 5, 6, 7, 8, 9, 10, 11, 12, 13, 14, 15, 16, 17, 18, 19, 20, 21, 22, 23], [0, 1, 2, 3, 4, 5, 6, 7, 8, 9, 10, 11, 12, 13, 14, 15, 16, 17, 18, 19, 20, 21, 22, 23, 30], [0, 1, 2, 3, 4, 5, 6, 7, 8, 9, 10, 11, 12, 13, 14, 15, 16, 17, 18, 19, 20, 21, 22, 23, 24, 25, 26, 27, 28, 29, 30, 31], [0, 1, 2, 3, 4, 5, 6, 7, 8, 9, 10, 11, 12, 13, 14, 15, 16, 17, 18, 19, 20, 21, 22, 23, 24, 25, 26, 27, 28, 29, 30, 31, 32], [0, 1, 2, 3, 4, 5, 6, 7, 8, 9, 10, 11, 12, 13, 14, 15, 16, 17, 18, 19, 20, 21, 22, 23, 24, 25, 26, 27, 28, 29, 30, 31, 32, 33]] [16, 17, 18, 19, 20, 21, 22, 23, 24, 25, 26, 27, 28, 29, 30, 31, 32, 33, 34, 35, 36, 37, 38, 39, 40, 41, 42, 43, 44, 45, 46, 47, 48, 49, 50] Ext.refl (fun _ _ _ => Ext.trans) (Ext.drew _) (by kernel_rfl) ?_
            apply Build.det 16 Ext.refl (by rfl) (by rfl) rfl
            case h =>
              intro ax wx hE hR hF
              have e7 : ax.eval (.tmp 7) = .pointer (some ⟨wr.heap.size, 0, none⟩) := hE.eval 7 (by rfl) rfl
              have hX2 := HX.out.ext hR; have q0 := hX2.cell 0; have q1 := hX2.cell 1; have q2 := hX2.cell 2; simp at q0 q1 q2; have qa := (HA.out.ext hR).cell T; rw [lim_at T hT] at qa
              simp [go_sem, ↓IntWalk.iteOmega, ev e7, dl, hlm, q0, q1, q2, qa]
              with_reducible rfl
            apply Build.call 17 Ext.refl (by rfl) (by rfl) rfl
            case h =>
              intro ax wx hE hR hF
              have e16 := hF 0 (det 16 _) (by decide) (.head _)
              simp [go_sem, ↓IntWalk.iteOmega, ev e16, dl, hlm]
              with_reducible exact ⟨rfl, rfl⟩
            case hc => intro wx hR; with_reducible exact HCA.out wx
            apply Build.det 18 Ext.refl (by rfl) (by rfl) rfl
            case h =>
              intro ax wx hE hR hF
              have e17 := hF 1 (det 17 _) (by decide) (.head _)
              simp [go_sem, ↓IntWalk.iteOmega, ev e17, dl, hlm]
              with_reducible rfl
            apply Build.det 19 Ext.refl (by rfl) (by rfl) rfl
            case h =>
              intro ax wx hE hR hF
              have e18 := hF 2 (det 18 _) (by decide) (.head _)
              simp [go_sem, ↓IntWalk.iteOmega, ev e18, dl, hlm]
              with_reducible rfl
            apply Build.detg 20 Ext.refl (by rfl) (by rfl) rfl rfl
            case h =>
              intro ax wx hE hR hF
              have e7 : ax.eval (.tmp 7) = .pointer (some ⟨wr.heap.size, 0, none⟩) := hE.eval 7 (by rfl) rfl
              have e19 := hF 3 (det 19 _) (by decide) (.head _)
              refine ⟨e19, ?_⟩
              simp [go_sem, ↓IntWalk.iteOmega, ev e7, ev e19, dl, hlm]
              with_reducible rfl
            apply Build.detg 21 Ext.refl (by rfl) (by rfl) rfl rfl
            case h =>
              intro ax wx hE hR hF
              have e19 := hF 3 (det 19 _) (by decide) (.tail _ (.head _))
              have e20 := hF 4 (det 20 _) (by decide) (.head _)
              refine ⟨e19, ?_⟩
              simp [go_sem, ↓IntWalk.iteOmega, ev e19, ev e20, dl, hlm]
              with_reducible rfl
            apply Build.detg 22 Ext.refl (by rfl) (by rfl) rfl rfl
            case h =>
              intro ax wx hE hR hF
              have e19 := hF 3 (det 19 _) (by decide) (.tail _ (.tail _ (.head _)))
              have e21 := hF 5 (det 21 _) (by decide) (.head _)
              have hX2 := HX.out.ext hR; have q0 := hX2.cell 0; have q1 := hX2.cell 1; have q2 := hX2.cell 2; simp at q0 q1 q2; have qa := (HA.out.ext hR).cell T; rw [lim_at T hT] at qa
              refine ⟨e19, ?_⟩
              simp [go_sem, ↓IntWalk.iteOmega, ev e19, ev e21, dl, hlm, q0, q1, q2, qa]
              with_reducible rfl
            apply Build.detg 23 Ext.refl (by rfl) (by rfl) rfl rfl
            case h =>
              intro ax wx hE hR hF
              have e7 : ax.eval (.tmp 7) = .pointer (some ⟨wr.heap.size, 0, none⟩) := hE.eval 7 (by rfl) rfl
              have e19 := hF 3 (det 19 _) (by decide) (.tail _ (.tail _ (.tail _ (.head _))))
              refine ⟨e19, ?_⟩
              simp [go_sem, ↓IntWalk.iteOmega, ev e7, ev e19, dl, hlm]
              with_reducible rfl
            apply Build.detg 24 Ext.refl (by rfl) (by rfl) rfl rfl
            case h =>
              intro ax wx hE hR hF
              have e19 := hF 3 (det 19 _) (by decide) (mem4 (.head _))
              have e23 := hF 7 (det 23 _) (by decide) (.head _)
              refine ⟨e19, ?_⟩
              simp [go_sem, ↓IntWalk.iteOmega, ev e19, ev e23, dl, hlm]
              with_reducible rfl
            apply Build.detg 25 Ext.refl (by rfl) (by rfl) rfl rfl
            case h =>
              intro ax wx hE hR hF
              have e19 := hF 3 (det 19 _) (by decide) (mem4 (.tail _ (.head _)))
              have e24 := hF 8 (det 24 _) (by decide) (.head _)
              have hX2 := HX.out.ext hR; have q0 := hX2.cell 0; have q1 := hX2.cell 1; have q2 := hX2.cell 2; simp at q0 q1 q2; have qa := (HA.out.ext hR).cell T; rw [lim_at T hT] at qa
              refine ⟨e19, ?_⟩
              simp [go_sem, ↓IntWalk.iteOmega, ev e19, ev e24, dl, hlm, q0, q1, q2, qa]
              with_reducible rfl
            apply Build.detg 26 Ext.refl (by rfl) (by rfl) rfl rfl
            case h =>
              intro ax wx hE hR hF
              have e3 : ax.eval (.tmp 3) = .pointer (some ⟨w.heap.size, 0, none⟩) := hE.eval 3 (by rfl) rfl
              have e19 := hF 3 (det 19 _) (by decide) (mem4 (.tail _ (.tail _ (.head _))))
              have e25 := hF 9 (det 25 _) (by decide) (.head _)
              refine ⟨e19, ?_⟩
              simp [go_sem, ↓IntWalk.iteOmega, ev e3, ev e19, ev e25, dl, hlm]
              with_reducible rfl
            apply Build.detg 27 Ext.refl (by rfl) (by rfl) rfl rfl
            case h =>
              intro ax wx hE hR hF
              have e19 := hF 3 (det 19 _) (by decide) (mem4 (.tail _ (.tail _ (.tail _ (.head _)))))
              have e26 := hF 10 (det 26 _) (by decide) (.head _)
              have hX2 := HX.out.ext hR; have q0 := hX2.cell 0; have q1 := hX2.cell 1; have q2 := hX2.cell 2; simp at q0 q1 q2; have qa := (HA.out.ext hR).cell T; rw [lim_at T hT] at qa
              refine ⟨e19, ?_⟩
              simp [go_sem, ↓IntWalk.iteOmega, ev e19, ev e26, dl, hlm, q0, q1, q2, qa]
              with_reducible rfl
            apply Build.detg 28 Ext.refl (by rfl) (by rfl) rfl rfl
            case h =>
              intro ax wx hE hR hF
              have e19 := hF 3 (det 19 _) (by decide) (mem4 (mem4 (.head _)))
              have e22 := hF 6 (det 22 _) (by decide) (mem4 (.tail _ (.head _)))
              have e27 := hF 11 (det 27 _) (by decide) (.head _)
              refine ⟨e19, ?_⟩
              simp [go_sem, ↓IntWalk.iteOmega, ev e19, ev e22, ev e27, dl, hlm]
              with_reducible rfl
            apply Build.det 29 Ext.refl (by rfl) (by rfl) rfl
            case h =>
              intro ax wx hE hR hF
              have e19 := hF 3 (det 19 _) (by decide) (mem4 (mem4 (.tail _ (.head _))))
              have e28 := hF 12 (det 28 _) (by decide) (.head _)
              simp [go_sem, ↓IntWalk.iteOmega, ev e19, ev e28, dl, hlm]
              with_reducible rfl
            apply Build.det 30 Ext.refl (by rfl) (by rfl) rfl
            case h =>
              intro ax wx hE hR hF
              have e29 := hF 13 (det 29 _) (by decide) (.head _)
              simp [go_sem, ↓IntWalk.iteOmega, ev e29, dl, hlm]
              with_reducible rfl
            refine Build.skip 31 (by rfl) (by rfl) rfl rfl ?_ ?_
            · intro ax wx hE hR hF
              have e30 := hF 14 (det 30 _) (by decide) (.head _)
              exact e30
            refine Build.skip 32 (by rfl) (by rfl) rfl rfl ?_ ?_
            · intro ax wx hE hR hF
              have e30 := hF 14 (det 30 _) (by decide) (.tail _ (.head _))
              exact e30
            refine Build.skip 33 (by rfl) (by rfl) rfl rfl ?_ ?_
            · intro ax wx hE hR hF
              have e30 := hF 14 (det 30 _) (by decide) (.tail _ (.tail _ (.head _)))
              exact e30
            refine Build.skip 34 (by rfl) (by rfl) rfl rfl ?_ ?_
            · intro ax wx hE hR hF
              have e30 := hF 14 (det 30 _) (by decide) (.tail _ (.tail _ (.tail _ (.head _))))
              exact e30
            apply Build.det 35 Ext.refl (by rfl) (by rfl) rfl
            case h =>
              intro ax wx hE hR hF
              have e30 := hF 14 (det 30 _) (by decide) (mem4 (.head _))
              have e34 := hF 18 (det 34 _) (by decide) (.head _)
              simp [go_sem, ↓IntWalk.iteOmega, ev e30, ev e34, dl, hlm]
              with_reducible rfl
            apply Build.det 36 Ext.refl (by rfl) (by rfl) rfl
            case h =>
              intro ax wx hE hR hF
              have e35 := hF 19 (det 35 _) (by decide) (.head _)
              simp [go_sem, ↓IntWalk.iteOmega, ev e35, dl, hlm]
              with_reducible rfl
            refine Build.skip 37 (by rfl) (by rfl) rfl rfl ?_ ?_
            · intro ax wx hE hR hF
              have e36 := hF 20 (det 36 _) (by decide) (.head _)
              exact e36
            refine Build.skip 38 (by rfl) (by rfl) rfl rfl ?_ ?_
            · intro ax wx hE hR hF
              have e36 := hF 20 (det 36 _) (by decide) (.tail _ (.head _))
              exact e36
            refine Build.skip 39 (by rfl) (by rfl) rfl rfl ?_ ?_
            · intro ax wx hE hR hF
              have e36 := hF 20 (det 36 _) (by decide) (.tail _ (.tail _ (.head _)))
              exact e36
            refine Build.skipu 40 (by rfl) (by rfl) rfl rfl ?_ ?_
            · intro ax wx hE hR hF
              have e39 := hF 23 (det 39 _) (by decide) (.head _)
              exact e39
            refine Build.skipu 41 (by rfl) (by rfl) rfl rfl ?_ ?_
            · intro ax wx hE hR hF
              have e39 := hF 23 (det 39 _) (by decide) (.tail _ (.head _))
              exact e39
            refine Build.skipu 42 (by rfl) (by rfl) rfl rfl ?_ ?_
            · intro ax wx hE hR hF
              have e39 := hF 23 (det 39 _) (by decide) (.tail _ (.tail _ (.head _)))
              exact e39
            refine Build.skipu 43 (by rfl) (by rfl) rfl rfl ?_ ?_
            · intro ax wx hE hR hF
              have e39 := hF 23 (det 39 _) (by decide) (.tail _ (.tail _ (.tail _ (.head _))))
              exact e39
            refine Build.skipu 44 (by rfl) (by rfl) rfl rfl ?_ ?_
            · intro ax wx hE hR hF
              have e39 := hF 23 (det 39 _) (by decide) (mem4 (.head _))
              exact e39
            refine Build.skipu 45 (by rfl) (by rfl) rfl rfl ?_ ?_
            · intro ax wx hE hR hF
              have e39 := hF 23 (det 39 _) (by decide) (mem4 (.tail _ (.head _)))
              exact e39
            refine Build.skipu 46 (by rfl) (by rfl) rfl rfl ?_ ?_
            · intro ax wx hE hR hF
              have e39 := hF 23 (det 39 _) (by decide) (mem4 (.tail _ (.tail _ (.head _))))
              exact e39
            refine Build.skipu 47 (by rfl) (by rfl) rfl rfl ?_ ?_
            · intro ax wx hE hR hF
              have e39 := hF 23 (det 39 _) (by decide) (mem4 (.tail _ (.tail _ (.tail _ (.head _)))))
              exact e39
            refine Build.skipu 48 (by rfl) (by rfl) rfl rfl ?_ ?_
            · intro ax wx hE hR hF
              have e39 := hF 23 (det 39 _) (by decide) (mem4 (mem4 (.head _)))
              exact e39
            refine Build.skip 49 (by rfl) (by rfl) rfl rfl ?_ ?_
            · intro ax wx hE hR hF
              have e36 := hF 20 (det 36 _) (by decide) (mem4 (mem4 (mem4 (.head _))))
              exact e36
            apply Build.det 50 Ext.refl (by rfl) (by rfl) rfl
            case h =>
              intro ax wx hE hR hF
              have e36 := hF 20 (det 36 _) (by decide) (mem4 (mem4 (mem4 (.tail _ (.head _)))))
              have e49 := hF 33 (det 49 _) (by decide) (.head _)
              simp [go_sem, ↓IntWalk.iteOmega, ev e36, ev e49, dl, hlm]
              with_reducible rfl
            apply Build.stop
            refine ⟨by kernel_rfl, .inl ⟨rfl, ?_⟩⟩
            intro ax w2 hE R2 hF
            have e16 := hF 0 (det 16 _) (mem16 (mem16 (.tail _ (.tail _ (.head _)))))
            have e17 := hF 1 (det 17 _) (mem16 (mem16 (.tail _ (.head _))))
            have e18 := hF 2 (det 18 _) (mem16 (mem16 (.head _)))
            have e19 := hF 3 (det 19 _) (mem16 (mem4 (mem4 (mem4 (.tail _ (.tail _ (.tail _ (.head _))))))))
            have e20 := hF 4 (det 20 _) (mem16 (mem4 (mem4 (mem4 (.tail _ (.tail _ (.head _)))))))
            have e21 := hF 5 (det 21 _) (mem16 (mem4 (mem4 (mem4 (.tail _ (.head _))))))
            have e22 := hF 6 (det 22 _) (mem16 (mem4 (mem4 (mem4 (.head _)))))
            have e23 := hF 7 (det 23 _) (mem16 (mem4 (mem4 (.tail _ (.tail _ (.tail _ (.head _)))))))
            have e24 := hF 8 (det 24 _) (mem16 (mem4 (mem4 (.tail _ (.tail _ (.head _))))))
            have e25 := hF 9 (det 25 _) (mem16 (mem4 (mem4 (.tail _ (.head _)))))
            have e26 := hF 10 (det 26 _) (mem16 (mem4 (mem4 (.head _))))
            have e27 := hF 11 (det 27 _) (mem16 (mem4 (.tail _ (.tail _ (.tail _ (.head _))))))
            have e28 := hF 12 (det 28 _) (mem16 (mem4 (.tail _ (.tail _ (.head _)))))
            have e29 := hF 13 (det 29 _) (mem16 (mem4 (.tail _ (.head _))))
            have e30 := hF 14 (det 30 _) (mem16 (mem4 (.head _)))
            have e31 := hF 15 (det 31 _) (mem16 (.tail _ (.tail _ (.tail _ (.head _)))))
            have e32 := hF 16 (det 32 _) (mem16 (.tail _ (.tail _ (.head _))))
            have e33 := hF 17 (det 33 _) (mem16 (.tail _ (.head _)))
            have e34 := hF 18 (det 34 _) (mem16 (.head _))
            have e35 := hF 19 (det 35 _) (mem4 (mem4 (mem4 (.tail _ (.tail _ (.tail _ (.head _)))))))
            have e36 := hF 20 (det 36 _) (mem4 (mem4 (mem4 (.tail _ (.tail _ (.head _))))))
            have e37 := hF 21 (det 37 _) (mem4 (mem4 (mem4 (.tail _ (.head _)))))
            have e38 := hF 22 (det 38 _) (mem4 (mem4 (mem4 (.head _))))
            have e39 := hF 23 (det 39 _) (mem4 (mem4 (.tail _ (.tail _ (.tail _ (.head _))))))
            have e40 := hF 24 (det 40 _) (mem4 (mem4 (.tail _ (.tail _ (.head _)))))
            have e41 := hF 25 (det 41 _) (mem4 (mem4 (.tail _ (.head _))))
            have e42 := hF 26 (det 42 _) (mem4 (mem4 (.head _)))
            have e43 := hF 27 (det 43 _) (mem4 (.tail _ (.tail _ (.tail _ (.head _)))))
            have e44 := hF 28 (det 44 _) (mem4 (.tail _ (.tail _ (.head _))))
            have e45 := hF 29 (det 45 _) (mem4 (.tail _ (.head _)))
            have e46 := hF 30 (det 46 _) (mem4 (.head _))
            have e47 := hF 31 (det 47 _) (.tail _ (.tail _ (.tail _ (.head _))))
            have e48 := hF 32 (det 48 _) (.tail _ (.tail _ (.head _)))
            have e49 := hF 33 (det 49 _) (.tail _ (.head _))
            have e50 := hF 34 (det 50 _) (.head _)
            rw [AllEq.frame (D := [16, 17, 18, 19, 20, 21, 22, 23, 24, 25, 26, 27, 28, 29, 30, 31, 32, 33, 34, 35, 36, 37, 38, 39, 40, 41, 42, 43, 44, 45, 46, 47, 48, 49, 50]) (AllEq.cons e16 (AllEq.cons e17 (AllEq.cons e18 (AllEq.cons e19 (AllEq.cons e20 (AllEq.cons e21 (AllEq.cons e22 (AllEq.cons e23 (AllEq.cons e24 (AllEq.cons e25 (AllEq.cons e26 (AllEq.cons e27 (AllEq.cons e28 (AllEq.cons e29 (AllEq.cons e30 (AllEq.cons e31 (AllEq.cons e32 (AllEq.cons e33 (AllEq.cons e34 (AllEq.cons e35 (AllEq.cons e36 (AllEq.cons e37 (AllEq.cons e38 (AllEq.cons e39 (AllEq.cons e40 (AllEq.cons e41 (AllEq.cons e42 (AllEq.cons e43 (AllEq.cons e44 (AllEq.cons e45 (AllEq.cons e46 (AllEq.cons e47 (AllEq.cons e48 (AllEq.cons e49 (AllEq.cons e50 (AllEq.nil)))))))))))))))))))))))))))))))))))) hE rfl]
            clear hF hE e16 e17 e18 e19 e20 e21 e22 e23 e24 e25 e26 e27 e28 e29 e30 e31 e32 e33 e34 e35 e36 e37 e38 e39 e40 e41 e42 e43 e44 e45 e46 e47 e48 e49 e50
            simp only [List.foldl_cons, List.foldl_nil, Act.put, List.setIfInBounds_toArray, List.set_cons_succ, List.set_cons_zero]
            have hEx := hE1.trans R2
            have hG : Hid (GB = false) := HB.out HBAD
            go_wp2_with fail
            go_ret
            exact ⟨by rw [hG.out] <;> rfl, hEx⟩
        · exact absurd (by have := hgl 0 hjx; rw [HC.out, HT.out, HSS.out] at this; exact this) hg
      | succ p => exact absurd hlt (by omega)
    · obtain rfl : j = len := by omega
      have hG : Hid (GB = true) := HG.out.2 HJ.out
      go_wp2_with fail
      go_ret
      exact ⟨by rw [hG.out] <;> rfl, hEx0⟩
end Go.Proofs.Ytngehbhhpkkijaa
