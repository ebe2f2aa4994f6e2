/- ShipSmall: changes cost what changed. -/
import Derived.Test.YtoiifcmjmjkcaaaKShipSmall17
namespace Go.Proofs.Ytoiifcmjmjkcaaa
set_option linter.unusedVariables false
set_option linter.unusedSimpArgs false
open Go.RowKit

set_option maxRecDepth 100000 in
set_option maxHeartbeats 4000000 in
theorem shipSmall_core (A A' : Option Addr) (len cap len' cap' : Nat) (xs ys : List Nat) (w : World) (hlen : xs.length = len) (hlen' : ys.length = len') (hm : len ≤ maxLen) (hm' : len' ≤ maxLen) (hx : ∀ x ∈ xs, x < 256) (hy : ∀ x ∈ ys, x < 256) (hrow : Row1 w A (fun n : Nat => Value.int .u8 n) xs) (hrow' : Row1 w A' (fun n : Nat => Value.int .u8 n) ys) :
    Calls Try.prog 7 #[.slice A len cap, .slice A' len' cap'] w fun e w' => e = .returned (.bool true) ∧ Ext w w' := by
  unfold maxLen at hm hm'
  obtain ⟨n, hn⟩ : ∃ n, min (min len len') 60 = n := ⟨_, rfl⟩
  have hn1 : n ≤ len := by omega
  have hn2 : n ≤ len' := by omega
  have hn60 : n ≤ 60 := by omega
  obtain ⟨m1, hm1⟩ : ∃ m : Nat, min len len' = m := ⟨_, rfl⟩
  have hmin1 : (if (len' : Int) < (len : Int) then (len' : Int) else (len : Int)) = (m1 : Int) := by split <;> omega
  have hmin2 : (if len' < len then (len' : Int) else (len : Int)) = (m1 : Int) := by split <;> omega
  have hmin3 : (if (60 : Int) < (m1 : Int) then 60 else (m1 : Int)) = (n : Int) := by split <;> omega
  have hmin4 : (if 60 < m1 then 60 else (m1 : Int)) = (n : Int) := by split <;> omega
  clear hn hm1
  go_enter Try.func7, Try.ntmps7
  go_wp2_with fail
  refine (awake31 _).mono ?_
  rintro e w1 ⟨rfl, R1⟩
  have HW1 := Lib.hid R1
  go_upto_region 8 with fail
  clear hmin1 hmin2 hmin3 hmin4
  go_loopw [6, 7, 8, 9] (fun s t d i wr => ∃ j : Nat, j ≤ n ∧ s = .string (txt (mod3 xs) j) ∧ t = .string (txt (mod3 ys) j) ∧ d = .int .i64 (diffN (mod3 xs) (mod3 ys) j) ∧ i = .int .i64 j ∧ Ext w wr) (fun _ _ _ i _ => n - (intOf i).toNat)
  case atStart => exact ⟨0, by omega, rfl, rfl, rfl, rfl, R1⟩
  case round =>
    clear R1
    obtain ⟨j, hj, rfl, rfl, rfl, rfl, hEx⟩ := hrel
    by_cases hlt : j < n
    · have hjx : j < xs.length := by omega
      have hjy : j < ys.length := by omega
      obtain ⟨b0, o0, rfl, hl0, q0⟩ := hrow.in_ hEx hjx
      obtain ⟨b1, o1, rfl, hl1, q1⟩ := hrow'.in_ hEx hjy
      have ex : xs.getD j 0 = xs[j] := by simp [List.getD, hjx]
      have ey : ys.getD j 0 = ys[j] := by simp [List.getD, hjy]
      have hxj := hx _ (List.getElem_mem hjx)
      have hyj := hy _ (List.getElem_mem hjy)
      have hF : mod3 xs j = UInt8.ofNat (xs[j] % 3) := by unfold mod3; rw [ex]
      have hG : mod3 ys j = UInt8.ofNat (ys[j] % 3) := by unfold mod3; rw [ey]
      clear ex ey
      have HQ := Lib.hid (fun (W : World) (h : Ext wr W) => And.intro ((bcell h).1 b0 (o0 + j) (Nat.lt_of_lt_of_le hl0 hEx.size) |>.trans q0) ((bcell h).1 b1 (o1 + j) (Nat.lt_of_lt_of_le hl1 hEx.size) |>.trans q1))
      generalize xs[j] = a at q0 hxj hF HQ
      generalize ys[j] = b at q1 hyj hG HQ
      have hdn : diffN (mod3 xs) (mod3 ys) (j + 1) = diffN (mod3 xs) (mod3 ys) j + if b % 3 = a % 3 then 0 else 1 := by
        rw [diffN, hF, hG]
        simp only [ofNat3]
      obtain ⟨qF, hqF⟩ : ∃ q, secT (UInt8.ofNat (a % 3)) = q := ⟨_, rfl⟩
      obtain ⟨qG, hqG⟩ : ∃ q, secT (UInt8.ofNat (b % 3)) = q := ⟨_, rfl⟩
      have HA := Lib.hid (sec31_call _ qF hqF ((a : Int) % 3) (by simp; omega))
      have HB := Lib.hid (sec31_call _ qG hqG ((b : Int) % 3) (by simp; omega))
      have sF : qF.size = 16 := by rw [← hqF]; exact secT_size _
      have sG : qG.size = 16 := by rw [← hqG]; exact secT_size _
      have nF := txt_next (mod3 xs) j _ hF
      have nG := txt_next (mod3 ys) j _ hG
      rw [hqF] at nF
      rw [hqG] at nG
      have sQ := txt_size (mod3 xs) j
      have sP := txt_size (mod3 ys) j
      have hdl := diffN_le (mod3 xs) (mod3 ys) j
      generalize txt (mod3 xs) j = Q at nF sQ ⊢
      generalize txt (mod3 ys) j = P at nG sP ⊢
      obtain ⟨Q2, hQ2⟩ : ∃ q, txt (mod3 xs) (j + 1) = q := ⟨_, rfl⟩
      obtain ⟨P2, hP2⟩ : ∃ q, txt (mod3 ys) (j + 1) = q := ⟨_, rfl⟩
      rw [hQ2] at nF
      rw [hP2] at nG
      have HQ2 := Lib.hid hQ2
      have HP2 := Lib.hid hP2
      clear hQ2 hP2
      generalize diffN (mod3 xs) (mod3 ys) j = D at hdn hdl ⊢
      have hwd : IntKind.i64.wrap ((D : Int) + 1) = (D : Int) + 1 := IntWalk.i64_in _ (by omega)
      go_wp2_with fail
      refine (HA.out _).mono ?_
      rintro e w2 ⟨rfl, R2⟩
      clear q0 q1
      have q1 := (HQ.out _ R2).2
      go_wp2_with fail
      refine (HB.out _).mono ?_
      rintro e w3 ⟨rfl, R3⟩
      have R23 := R2.trans R3
      have hEx3 := hEx.trans R23
      clear q1 R2 R3 hEx HA HB
      have ta : (a : Int).tmod 3 = (a : Int) % 3 := Int.tmod_eq_emod_of_nonneg (by omega)
      have tb : (b : Int).tmod 3 = (b : Int) % 3 := Int.tmod_eq_emod_of_nonneg (by omega)
      have ua : IntKind.u8.wrap ((a : Int) % 3) = (a : Int) % 3 := by simp [IntKind.wrap, IntKind.bits, IntKind.signed]; omega
      have ub : IntKind.u8.wrap ((b : Int) % 3) = (b : Int) % 3 := by simp [IntKind.wrap, IntKind.bits, IntKind.signed]; omega
      go_upto_region 12 with fail
      by_cases hab : b % 3 = a % 3
      · rw [if_pos hab, Nat.add_zero] at hdn
        have dn : ((a : Int) % 3 != (b : Int) % 3) = false := by rw [bne_eq_false_iff_eq]; omega
        have dn2 : ((a : Int) % 3 == (b : Int) % 3) = true := by rw [beq_iff_eq]; omega
        have dn3 : decide ((a : Int) % 3 = (b : Int) % 3) = true := by rw [decide_eq_true_iff]; omega
        have HD := Lib.hid hdn
        clear hab hdn
        refine wp_typed (R := Ext) (w0 := w3) [[], [], [0, 1], [0, 1, 2], [0, 1, 2, 3], [], [], [5, 6], [5, 6, 7], [5, 6, 7, 8], [0, 1, 2, 3, 4, 5, 6, 7, 8, 9]] [46, 47, 48, 49, 50, 51, 52, 53, 54, 55, 56] Ext.refl (fun _ _ _ => Ext.trans) (Ext.drew _) (by kernel_rfl) ?_
        apply Build.det 46 Ext.refl (by rfl) (by rfl) rfl
        case h =>   -- 0: t46 := Op.move (tmp 0)
          intro ax wx hE hR hF
          have e0 : ax.eval (.tmp 0) = .slice (some ⟨b0, o0, none⟩) len cap := hE.eval 0 (by rfl) rfl
          simp [go_sem, BigFrame.eval_const, BigFrame.eval_global, BigFrame.eval_func, ↓IntWalk.iteOmega, ev e0, dn, dn2, dn3, ta, tb, ua, ub]
          with_reducible rfl
        apply Build.det 47 Ext.refl (by rfl) (by rfl) rfl
        case h =>   -- 1: t47 := Op.move (tmp 9)
          intro ax wx hE hR hF
          have e9 : ax.eval (.tmp 9) = .int .i64 j := hE.eval 9 (by rfl) rfl
          simp [go_sem, BigFrame.eval_const, BigFrame.eval_global, BigFrame.eval_func, ↓IntWalk.iteOmega, ev e9, dn, dn2, dn3, ta, tb, ua, ub]
          with_reducible rfl
        apply Build.det 48 Ext.refl (by rfl) (by rfl) rfl
        case h =>   -- 2: t48 := Op.indexAddr 22 (tmp 46) (tmp 47)
          intro ax wx hE hR hF
          have e46 : ax.eval (.tmp 46) = _ := hF 0 (det 46 _) (by decide) (.tail _ (.head _))
          have e47 : ax.eval (.tmp 47) = _ := hF 1 (det 47 _) (by decide) (.head _)
          simp [go_sem, BigFrame.eval_const, BigFrame.eval_global, BigFrame.eval_func, ↓IntWalk.iteOmega, ev e46, ev e47, dn, dn2, dn3, ta, tb, ua, ub]
          with_reducible rfl
        apply Build.det 49 Ext.refl (by rfl) (by rfl) rfl
        case h =>   -- 3: t49 := Op.load 5 (tmp 48)
          intro ax wx hE hR hF
          have e48 : ax.eval (.tmp 48) = _ := hF 2 (det 48 _) (by decide) (.head _)
          obtain ⟨q0, q1⟩ := HQ.out _ (R23.trans hR)
          simp [go_sem, BigFrame.eval_const, BigFrame.eval_global, BigFrame.eval_func, ↓IntWalk.iteOmega, ev e48, dn, dn2, dn3, ta, tb, ua, ub, q0, q1]
          with_reducible rfl
        apply Build.det 50 Ext.refl (by rfl) (by rfl) rfl
        case h =>   -- 4: t50 := Op.binOp BinOp.rem 5 (tmp 49) (const (Value.int IntKind.u8 3)) 5
          intro ax wx hE hR hF
          have e49 : ax.eval (.tmp 49) = _ := hF 3 (det 49 _) (by decide) (.head _)
          simp [go_sem, BigFrame.eval_const, BigFrame.eval_global, BigFrame.eval_func, ↓IntWalk.iteOmega, ev e49, dn, dn2, dn3, ta, tb, ua, ub]
          with_reducible rfl
        apply Build.det 51 Ext.refl (by rfl) (by rfl) rfl
        case h =>   -- 5: t51 := Op.move (tmp 1)
          intro ax wx hE hR hF
          have e1 : ax.eval (.tmp 1) = .slice (some ⟨b1, o1, none⟩) len' cap' := hE.eval 1 (by rfl) rfl
          simp [go_sem, BigFrame.eval_const, BigFrame.eval_global, BigFrame.eval_func, ↓IntWalk.iteOmega, ev e1, dn, dn2, dn3, ta, tb, ua, ub]
          with_reducible rfl
        apply Build.det 52 Ext.refl (by rfl) (by rfl) rfl
        case h =>   -- 6: t52 := Op.move (tmp 9)
          intro ax wx hE hR hF
          have e9 : ax.eval (.tmp 9) = .int .i64 j := hE.eval 9 (by rfl) rfl
          simp [go_sem, BigFrame.eval_const, BigFrame.eval_global, BigFrame.eval_func, ↓IntWalk.iteOmega, ev e9, dn, dn2, dn3, ta, tb, ua, ub]
          with_reducible rfl
        apply Build.det 53 Ext.refl (by rfl) (by rfl) rfl
        case h =>   -- 7: t53 := Op.indexAddr 22 (tmp 51) (tmp 52)
          intro ax wx hE hR hF
          have e51 : ax.eval (.tmp 51) = _ := hF 5 (det 51 _) (by decide) (.tail _ (.head _))
          have e52 : ax.eval (.tmp 52) = _ := hF 6 (det 52 _) (by decide) (.head _)
          simp [go_sem, BigFrame.eval_const, BigFrame.eval_global, BigFrame.eval_func, ↓IntWalk.iteOmega, ev e51, ev e52, dn, dn2, dn3, ta, tb, ua, ub]
          with_reducible rfl
        apply Build.det 54 Ext.refl (by rfl) (by rfl) rfl
        case h =>   -- 8: t54 := Op.load 5 (tmp 53)
          intro ax wx hE hR hF
          have e53 : ax.eval (.tmp 53) = _ := hF 7 (det 53 _) (by decide) (.head _)
          obtain ⟨q0, q1⟩ := HQ.out _ (R23.trans hR)
          simp [go_sem, BigFrame.eval_const, BigFrame.eval_global, BigFrame.eval_func, ↓IntWalk.iteOmega, ev e53, dn, dn2, dn3, ta, tb, ua, ub, q0, q1]
          with_reducible rfl
        apply Build.det 55 Ext.refl (by rfl) (by rfl) rfl
        case h =>   -- 9: t55 := Op.binOp BinOp.rem 5 (tmp 54) (const (Value.int IntKind.u8 3)) 5
          intro ax wx hE hR hF
          have e54 : ax.eval (.tmp 54) = _ := hF 8 (det 54 _) (by decide) (.head _)
          simp [go_sem, BigFrame.eval_const, BigFrame.eval_global, BigFrame.eval_func, ↓IntWalk.iteOmega, ev e54, dn, dn2, dn3, ta, tb, ua, ub]
          with_reducible rfl
        apply Build.det 56 Ext.refl (by rfl) (by rfl) rfl
        case h =>   -- 10: t56 := Op.binOp BinOp.neq 5 (tmp 50) (tmp 55) 5
          intro ax wx hE hR hF
          have e50 : ax.eval (.tmp 50) = _ := hF 4 (det 50 _) (by decide) (mem4 (.tail _ (.head _)))
          have e55 : ax.eval (.tmp 55) = _ := hF 9 (det 55 _) (by decide) (.head _)
          simp [go_sem, BigFrame.eval_const, BigFrame.eval_global, BigFrame.eval_func, ↓IntWalk.iteOmega, ev e50, ev e55, dn, dn2, dn3, ta, tb, ua, ub]
          with_reducible rfl
        apply Build.stop
        refine ⟨by kernel_rfl, .inl ⟨rfl, ?_⟩⟩
        intro ax w4 hE R4 hF
        have e46 : ax.eval (.tmp 46) = _ := hF 0 (det 46 _) (mem4 (mem4 (.tail _ (.tail _ (.head _)))))
        have e47 : ax.eval (.tmp 47) = _ := hF 1 (det 47 _) (mem4 (mem4 (.tail _ (.head _))))
        have e48 : ax.eval (.tmp 48) = _ := hF 2 (det 48 _) (mem4 (mem4 (.head _)))
        have e49 : ax.eval (.tmp 49) = _ := hF 3 (det 49 _) (mem4 (.tail _ (.tail _ (.tail _ (.head _)))))
        have e50 : ax.eval (.tmp 50) = _ := hF 4 (det 50 _) (mem4 (.tail _ (.tail _ (.head _))))
        have e51 : ax.eval (.tmp 51) = _ := hF 5 (det 51 _) (mem4 (.tail _ (.head _)))
        have e52 : ax.eval (.tmp 52) = _ := hF 6 (det 52 _) (mem4 (.head _))
        have e53 : ax.eval (.tmp 53) = _ := hF 7 (det 53 _) (.tail _ (.tail _ (.tail _ (.head _))))
        have e54 : ax.eval (.tmp 54) = _ := hF 8 (det 54 _) (.tail _ (.tail _ (.head _)))
        have e55 : ax.eval (.tmp 55) = _ := hF 9 (det 55 _) (.tail _ (.head _))
        have e56 : ax.eval (.tmp 56) = _ := hF 10 (det 56 _) (.head _)
        rw [AllEq.frame (D := [46, 47, 48, 49, 50, 51, 52, 53, 54, 55, 56]) (AllEq.cons e46 (AllEq.cons e47 (AllEq.cons e48 (AllEq.cons e49 (AllEq.cons e50 (AllEq.cons e51 (AllEq.cons e52 (AllEq.cons e53 (AllEq.cons e54 (AllEq.cons e55 (AllEq.cons e56 (AllEq.nil)))))))))))) hE rfl]
        clear hF hE e46 e47 e48 e49 e50 e51 e52 e53 e54 e55 e56
        simp only [List.foldl_cons, List.foldl_nil, Act.put, List.setIfInBounds_toArray, List.set_cons_succ, List.set_cons_zero]
        have hEx4 := hEx3.trans R4
        clear hEx3 R23 R4 HQ
        go_wp2_with fail
        go_roundw
        case rel => exact ⟨j + 1, by omega, by rw [HQ2.out] <;> rfl, by rw [HP2.out] <;> rfl, by rw [HD.out] <;> go_num, by go_num, hEx4⟩
        case measure => simp [intOf]; omega
      · rw [if_neg hab] at hdn
        have dn : ((a : Int) % 3 != (b : Int) % 3) = true := by rw [bne_iff_ne]; omega
        have dn2 : ((a : Int) % 3 == (b : Int) % 3) = false := by rw [beq_eq_false_iff_ne]; omega
        have dn3 : decide ((a : Int) % 3 = (b : Int) % 3) = false := by rw [decide_eq_false_iff_not]; omega
        have HD := Lib.hid hdn
        clear hab hdn
        refine wp_typed (R := Ext) (w0 := w3) [[], [], [0, 1], [0, 1, 2], [0, 1, 2, 3], [], [], [5, 6], [5, 6, 7], [5, 6, 7, 8], [0, 1, 2, 3, 4, 5, 6, 7, 8, 9]] [46, 47, 48, 49, 50, 51, 52, 53, 54, 55, 56] Ext.refl (fun _ _ _ => Ext.trans) (Ext.drew _) (by kernel_rfl) ?_
        apply Build.det 46 Ext.refl (by rfl) (by rfl) rfl
        case h =>   -- 0: t46 := Op.move (tmp 0)
          intro ax wx hE hR hF
          have e0 : ax.eval (.tmp 0) = .slice (some ⟨b0, o0, none⟩) len cap := hE.eval 0 (by rfl) rfl
          simp [go_sem, BigFrame.eval_const, BigFrame.eval_global, BigFrame.eval_func, ↓IntWalk.iteOmega, ev e0, dn, dn2, dn3, ta, tb, ua, ub]
          with_reducible rfl
        apply Build.det 47 Ext.refl (by rfl) (by rfl) rfl
        case h =>   -- 1: t47 := Op.move (tmp 9)
          intro ax wx hE hR hF
          have e9 : ax.eval (.tmp 9) = .int .i64 j := hE.eval 9 (by rfl) rfl
          simp [go_sem, BigFrame.eval_const, BigFrame.eval_global, BigFrame.eval_func, ↓IntWalk.iteOmega, ev e9, dn, dn2, dn3, ta, tb, ua, ub]
          with_reducible rfl
        apply Build.det 48 Ext.refl (by rfl) (by rfl) rfl
        case h =>   -- 2: t48 := Op.indexAddr 22 (tmp 46) (tmp 47)
          intro ax wx hE hR hF
          have e46 : ax.eval (.tmp 46) = _ := hF 0 (det 46 _) (by decide) (.tail _ (.head _))
          have e47 : ax.eval (.tmp 47) = _ := hF 1 (det 47 _) (by decide) (.head _)
          simp [go_sem, BigFrame.eval_const, BigFrame.eval_global, BigFrame.eval_func, ↓IntWalk.iteOmega, ev e46, ev e47, dn, dn2, dn3, ta, tb, ua, ub]
          with_reducible rfl
        apply Build.det 49 Ext.refl (by rfl) (by rfl) rfl
        case h =>   -- 3: t49 := Op.load 5 (tmp 48)
          intro ax wx hE hR hF
          have e48 : ax.eval (.tmp 48) = _ := hF 2 (det 48 _) (by decide) (.head _)
          obtain ⟨q0, q1⟩ := HQ.out _ (R23.trans hR)
          simp [go_sem, BigFrame.eval_const, BigFrame.eval_global, BigFrame.eval_func, ↓IntWalk.iteOmega, ev e48, dn, dn2, dn3, ta, tb, ua, ub, q0, q1]
          with_reducible rfl
        apply Build.det 50 Ext.refl (by rfl) (by rfl) rfl
        case h =>   -- 4: t50 := Op.binOp BinOp.rem 5 (tmp 49) (const (Value.int IntKind.u8 3)) 5
          intro ax wx hE hR hF
          have e49 : ax.eval (.tmp 49) = _ := hF 3 (det 49 _) (by decide) (.head _)
          simp [go_sem, BigFrame.eval_const, BigFrame.eval_global, BigFrame.eval_func, ↓IntWalk.iteOmega, ev e49, dn, dn2, dn3, ta, tb, ua, ub]
          with_reducible rfl
        apply Build.det 51 Ext.refl (by rfl) (by rfl) rfl
        case h =>   -- 5: t51 := Op.move (tmp 1)
          intro ax wx hE hR hF
          have e1 : ax.eval (.tmp 1) = .slice (some ⟨b1, o1, none⟩) len' cap' := hE.eval 1 (by rfl) rfl
          simp [go_sem, BigFrame.eval_const, BigFrame.eval_global, BigFrame.eval_func, ↓IntWalk.iteOmega, ev e1, dn, dn2, dn3, ta, tb, ua, ub]
          with_reducible rfl
        apply Build.det 52 Ext.refl (by rfl) (by rfl) rfl
        case h =>   -- 6: t52 := Op.move (tmp 9)
          intro ax wx hE hR hF
          have e9 : ax.eval (.tmp 9) = .int .i64 j := hE.eval 9 (by rfl) rfl
          simp [go_sem, BigFrame.eval_const, BigFrame.eval_global, BigFrame.eval_func, ↓IntWalk.iteOmega, ev e9, dn, dn2, dn3, ta, tb, ua, ub]
          with_reducible rfl
        apply Build.det 53 Ext.refl (by rfl) (by rfl) rfl
        case h =>   -- 7: t53 := Op.indexAddr 22 (tmp 51) (tmp 52)
          intro ax wx hE hR hF
          have e51 : ax.eval (.tmp 51) = _ := hF 5 (det 51 _) (by decide) (.tail _ (.head _))
          have e52 : ax.eval (.tmp 52) = _ := hF 6 (det 52 _) (by decide) (.head _)
          simp [go_sem, BigFrame.eval_const, BigFrame.eval_global, BigFrame.eval_func, ↓IntWalk.iteOmega, ev e51, ev e52, dn, dn2, dn3, ta, tb, ua, ub]
          with_reducible rfl
        apply Build.det 54 Ext.refl (by rfl) (by rfl) rfl
        case h =>   -- 8: t54 := Op.load 5 (tmp 53)
          intro ax wx hE hR hF
          have e53 : ax.eval (.tmp 53) = _ := hF 7 (det 53 _) (by decide) (.head _)
          obtain ⟨q0, q1⟩ := HQ.out _ (R23.trans hR)
          simp [go_sem, BigFrame.eval_const, BigFrame.eval_global, BigFrame.eval_func, ↓IntWalk.iteOmega, ev e53, dn, dn2, dn3, ta, tb, ua, ub, q0, q1]
          with_reducible rfl
        apply Build.det 55 Ext.refl (by rfl) (by rfl) rfl
        case h =>   -- 9: t55 := Op.binOp BinOp.rem 5 (tmp 54) (const (Value.int IntKind.u8 3)) 5
          intro ax wx hE hR hF
          have e54 : ax.eval (.tmp 54) = _ := hF 8 (det 54 _) (by decide) (.head _)
          simp [go_sem, BigFrame.eval_const, BigFrame.eval_global, BigFrame.eval_func, ↓IntWalk.iteOmega, ev e54, dn, dn2, dn3, ta, tb, ua, ub]
          with_reducible rfl
        apply Build.det 56 Ext.refl (by rfl) (by rfl) rfl
        case h =>   -- 10: t56 := Op.binOp BinOp.neq 5 (tmp 50) (tmp 55) 5
          intro ax wx hE hR hF
          have e50 : ax.eval (.tmp 50) = _ := hF 4 (det 50 _) (by decide) (mem4 (.tail _ (.head _)))
          have e55 : ax.eval (.tmp 55) = _ := hF 9 (det 55 _) (by decide) (.head _)
          simp [go_sem, BigFrame.eval_const, BigFrame.eval_global, BigFrame.eval_func, ↓IntWalk.iteOmega, ev e50, ev e55, dn, dn2, dn3, ta, tb, ua, ub]
          with_reducible rfl
        apply Build.stop
        refine ⟨by kernel_rfl, .inl ⟨rfl, ?_⟩⟩
        intro ax w4 hE R4 hF
        have e46 : ax.eval (.tmp 46) = _ := hF 0 (det 46 _) (mem4 (mem4 (.tail _ (.tail _ (.head _)))))
        have e47 : ax.eval (.tmp 47) = _ := hF 1 (det 47 _) (mem4 (mem4 (.tail _ (.head _))))
        have e48 : ax.eval (.tmp 48) = _ := hF 2 (det 48 _) (mem4 (mem4 (.head _)))
        have e49 : ax.eval (.tmp 49) = _ := hF 3 (det 49 _) (mem4 (.tail _ (.tail _ (.tail _ (.head _)))))
        have e50 : ax.eval (.tmp 50) = _ := hF 4 (det 50 _) (mem4 (.tail _ (.tail _ (.head _))))
        have e51 : ax.eval (.tmp 51) = _ := hF 5 (det 51 _) (mem4 (.tail _ (.head _)))
        have e52 : ax.eval (.tmp 52) = _ := hF 6 (det 52 _) (mem4 (.head _))
        have e53 : ax.eval (.tmp 53) = _ := hF 7 (det 53 _) (.tail _ (.tail _ (.tail _ (.head _))))
        have e54 : ax.eval (.tmp 54) = _ := hF 8 (det 54 _) (.tail _ (.tail _ (.head _)))
        have e55 : ax.eval (.tmp 55) = _ := hF 9 (det 55 _) (.tail _ (.head _))
        have e56 : ax.eval (.tmp 56) = _ := hF 10 (det 56 _) (.head _)
        rw [AllEq.frame (D := [46, 47, 48, 49, 50, 51, 52, 53, 54, 55, 56]) (AllEq.cons e46 (AllEq.cons e47 (AllEq.cons e48 (AllEq.cons e49 (AllEq.cons e50 (AllEq.cons e51 (AllEq.cons e52 (AllEq.cons e53 (AllEq.cons e54 (AllEq.cons e55 (AllEq.cons e56 (AllEq.nil)))))))))))) hE rfl]
        clear hF hE e46 e47 e48 e49 e50 e51 e52 e53 e54 e55 e56
        simp only [List.foldl_cons, List.foldl_nil, Act.put, List.setIfInBounds_toArray, List.set_cons_succ, List.set_cons_zero]
        have hEx4 := hEx3.trans R4
        clear hEx3 R23 R4 HQ
        go_wp2_with fail
        go_roundw
        case rel => exact ⟨j + 1, by omega, by rw [HQ2.out] <;> rfl, by rw [HP2.out] <;> rfl, by rw [HD.out] <;> go_num, by go_num, hEx4⟩
        case measure => simp [intOf]; omega
    · obtain rfl : j = n := by omega
      have hj4 : j ≤ 4096 := by omega
      have hD := diffN_le (mod3 xs) (mod3 ys) j
      have hK := exts_few (mod3 xs) (mod3 ys) j
      have hlc := chgL_len (mod3 xs) (mod3 ys) j
      have hTs := txt_size (mod3 ys) j
      have hSs := txt_size (mod3 xs) j
      obtain ⟨q1, hq1⟩ : ∃ q, secT 1 = q := ⟨_, rfl⟩
      have H1 := Lib.hid (sec31_call 1 q1 hq1 1 rfl)
      have s1 : q1.size = 16 := by rw [← hq1]; exact secT_size _
      obtain ⟨S, hS⟩ : ∃ q, txt (mod3 xs) j = q := ⟨_, rfl⟩
      obtain ⟨T, hT⟩ : ∃ q, txt (mod3 ys) j = q := ⟨_, rfl⟩
      obtain ⟨x, hxx⟩ : ∃ q : ByteArray, (⟨(chgL (mod3 xs) (mod3 ys) j).toArray⟩ : ByteArray) = q := ⟨_, rfl⟩
      have hxd : x.data.toList = chgL (mod3 xs) (mod3 ys) j := by rw [← hxx]
      have HA := Lib.hid (send_chg (mod3 xs) (mod3 ys) j hj4 S T hS hT x hxx)
      have HT1 := Lib.hid (take_chg_yes (mod3 xs) (mod3 ys) (mod3 xs) j hj4 S x T hS hT hxd rfl (by rw [txt_eq]; intro i _; split <;> simp_all))
      rw [hT] at hTs
      rw [hS] at hSs
      have hxs : x.size = 22 + 8 * (exts (mod3 xs) (mod3 ys) j).length + 16 * diffN (mod3 xs) (mod3 ys) j := by
        rw [← hxx]
        show (chgL (mod3 xs) (mod3 ys) j).toArray.size = _
        rw [List.size_toArray, hlc]
      rw [hS, hT]
      generalize (exts (mod3 xs) (mod3 ys) j).length = K at hK hxs
      generalize diffN (mod3 xs) (mod3 ys) j = D at hK hxs hD ⊢
      have HO1 := Lib.hid (send_odd S (T ++ ⟨#[120]⟩) (by rw [ByteArray.size_append, show (⟨#[120]⟩ : ByteArray).size = 1 from rfl]; omega) (by rw [ByteArray.size_append, show (⟨#[120]⟩ : ByteArray).size = 1 from rfl]; omega))
      have HO2 := Lib.hid (send_other (S ++ q1) T (by omega) (by omega) (by rw [ByteArray.size_append]; omega) (by rw [ByteArray.size_append]; omega))
      have w1 : IntKind.i64.wrap (16 * (D : Int)) = 16 * (D : Int) := IntWalk.i64_in _ (by omega)
      have w2 : IntKind.i64.wrap (22 + 16 * (D : Int)) = 22 + 16 * (D : Int) := IntWalk.i64_in _ (by omega)
      have w3 : IntKind.i64.wrap (24 * (D : Int)) = 24 * (D : Int) := IntWalk.i64_in _ (by omega)
      have w4 : IntKind.i64.wrap (22 + 24 * (D : Int)) = 22 + 24 * (D : Int) := IntWalk.i64_in _ (by omega)
      have d1 : decide ((x.size : Int) < 22 + 16 * (D : Int)) = false := by rw [decide_eq_false_iff_not]; omega
      have d2 : decide (22 + 24 * (D : Int) < (x.size : Int)) = false := by rw [decide_eq_false_iff_not]; omega
      have hTT : (T.toList == T.toList) = true := by simp
      have hSl : S.size ≤ 1000 := by omega
      have hTl : T.size ≤ 1000 := by omega
      clear hlc hq1 hS hT hxx hxd hxs hK hTs hSs
      go_wp2_with fail
      refine (HA.out _).mono ?_
      rintro e w2' ⟨rfl, R2⟩
      go_wp2_with fail
      refine (HO1.out _).mono ?_
      rintro e w3' ⟨rfl, R3⟩
      go_wp2_with fail
      refine (H1.out _).mono ?_
      rintro e w4' ⟨rfl, R4⟩
      go_wp2_with fail
      refine (HO2.out _).mono ?_
      rintro e w5' ⟨rfl, R5⟩
      go_wp2_with fail
      refine (HT1.out _).mono ?_
      rintro e w6' ⟨rfl, R6⟩
      have hEx6 := hEx.trans ((((R2.trans R3).trans R4).trans R5).trans R6)
      clear R2 R3 R4 R5 R6 hEx
      go_wp2_with fail
      go_ret
      exact ⟨rfl, hEx6⟩
theorem shipSmall_walk (w : World) (v0 v1 : Value) (h0 : Arg Try.prog w 22 v0) (h1 : Arg Try.prog w 22 v1) :
    Calls Try.prog 7 #[v0, v1] w fun e w' => e = .returned (.bool true) ∧ Below w.heap.size w w' := by
  obtain ⟨A, len, cap, xs, rfl, h2, h3, h4, h5⟩ := arg_bytes h0
  obtain ⟨A', len', cap', ys, rfl, h2', h3', h4', h5'⟩ := arg_bytes h1
  exact shipSmall_core A A' len cap len' cap' xs ys w h3 h3' h2 h2' h4 h4' h5 h5'
end Go.Proofs.Ytoiifcmjmjkcaaa
