/- DiffBack: what is told makes the one the other one, and back. -/
import Derived.Test.YtoiifcmjmjkcaaaKDiffThree10
namespace Go.Proofs.Ytoiifcmjmjkcaaa
set_option linter.unusedVariables false
set_option linter.unusedSimpArgs false
open Go.RowKit

theorem row1_nat {w : World} {A : Option Addr} {xs : List Int} (h : Row1 w A (Value.int .u8) xs) (h0 : ∀ x ∈ xs, 0 ≤ x) : Row1 w A (fun n : Nat => Value.int .u8 n) (xs.map Int.toNat) := by
  intro i x hx
  rw [List.getElem?_map] at hx
  cases hxi : xs[i]? with
  | none => rw [hxi] at hx; simp at hx
  | some y =>
    rw [hxi] at hx
    simp only [Option.map_some, Option.some.injEq] at hx
    subst hx
    obtain ⟨b, off, hA, hb, hc⟩ := h i y hxi
    have hy := h0 y (List.mem_of_getElem? hxi)
    exact ⟨b, off, hA, hb, by rw [hc]; congr 2; omega⟩
theorem arg_bytes {w : World} {v : Value} (h : Arg Try.prog w 22 v) :
    ∃ A len cap, ∃ xs : List Nat, v = .slice A len cap ∧ len ≤ maxLen ∧ xs.length = len ∧ (∀ x ∈ xs, x < 256) ∧ Row1 w A (fun n : Nat => Value.int .u8 n) xs := by
  obtain ⟨A, len, cap, xs, rfl, h1, h2, h3, h4, h5⟩ := arg_ints Try.underlying22 Try.underlying5 (by kernel_rfl) h
  have hb : ∀ x ∈ xs, 0 ≤ x ∧ x ≤ 255 := fun x hx => bounds_u8 (h4 x hx)
  refine ⟨A, len, cap, xs.map Int.toNat, rfl, by omega, by simpa using h3, fun x hx => ?_, row1_nat h5 (fun x hx => (hb x hx).1)⟩
  simp only [List.mem_map] at hx
  obtain ⟨y, hy, rfl⟩ := hx
  have := hb y hy
  omega
/-- The byte of sector i. -/
def mod3 (xs : List Nat) (i : Nat) : UInt8 := UInt8.ofNat (xs.getD i 0 % 3)
theorem ofNat3 (a b : Nat) : UInt8.ofNat (a % 3) = UInt8.ofNat (b % 3) ↔ a % 3 = b % 3 := by
  constructor
  · intro h
    have := congrArg UInt8.toNat h
    simp at this
    omega
  · intro h; rw [h]
set_option maxRecDepth 100000 in
set_option maxHeartbeats 4000000 in
theorem diffBack_core (A A' : Option Addr) (len cap len' cap' : Nat) (xs ys : List Nat) (w : World) (hlen : xs.length = len) (hlen' : ys.length = len') (hm : len ≤ maxLen) (hm' : len' ≤ maxLen) (hx : ∀ x ∈ xs, x < 256) (hy : ∀ x ∈ ys, x < 256) (hrow : Row1 w A (fun n : Nat => Value.int .u8 n) xs) (hrow' : Row1 w A' (fun n : Nat => Value.int .u8 n) ys) :
    Calls Try.prog 3 #[.slice A len cap, .slice A' len' cap'] w fun e w' => e = .returned (.bool true) ∧ Ext w w' := by
  unfold maxLen at hm hm'
  obtain ⟨n, hn⟩ : ∃ n, min (min len len') 60 = n := ⟨_, rfl⟩
  have hn1 : n ≤ len := by omega
  have hn2 : n ≤ len' := by omega
  have hn60 : n ≤ 60 := by omega
  obtain ⟨m1, hm1⟩ : ∃ m : Nat, min len len' = m := ⟨_, rfl⟩
  have hmin1 : (if (len' : Int) < (len : Int) then (len' : Int) else (len : Int)) = (m1 : Int) := by split <;> omega
  have hmin2 : (if len' < len then (len' : Int) else (len : Int)) = (m1 : Int) := by split <;> omega
  have hmin3 : (if (60 : Int) < (m1 : Int) then 60 else (m1 : Int)) = (n : Int) := by split <;> omega
  have hmin4 : (if 60 < m1 then 60 else (m1 : Int)) = (n : Int) := by split <;> omega
  clear hn hm1
  go_enter Try.func3, Try.ntmps3
  go_wp2_with fail
  refine (awake30 _).mono ?_
  rintro e w1 ⟨rfl, R1⟩
  have HW1 := Lib.hid R1
  go_upto_region 8 with fail
  clear hmin1 hmin2 hmin3 hmin4
  go_loopw [6, 7, 8, 9] (fun s t d i wr => ∃ j : Nat, j ≤ n ∧ s = .string (txt (mod3 xs) j) ∧ t = .string (txt (mod3 ys) j) ∧ d = .int .i64 (diffN (mod3 xs) (mod3 ys) j) ∧ i = .int .i64 j ∧ Ext w wr) (fun _ _ _ i _ => n - (intOf i).toNat)
  case atStart => exact ⟨0, by omega, rfl, rfl, rfl, rfl, R1⟩
  case round =>
    clear R1
    obtain ⟨j, hj, rfl, rfl, rfl, rfl, hEx⟩ := hrel
    by_cases hlt : j < n
    · have hjx : j < xs.length := by omega
      have hjy : j < ys.length := by omega
      obtain ⟨b0, o0, rfl, hl0, q0⟩ := hrow.in_ hEx hjx
      obtain ⟨b1, o1, rfl, hl1, q1⟩ := hrow'.in_ hEx hjy
      have ex : xs.getD j 0 = xs[j] := by simp [List.getD, hjx]
      have ey : ys.getD j 0 = ys[j] := by simp [List.getD, hjy]
      have hxj := hx _ (List.getElem_mem hjx)
      have hyj := hy _ (List.getElem_mem hjy)
      have hF : mod3 xs j = UInt8.ofNat (xs[j] % 3) := by unfold mod3; rw [ex]
      have hG : mod3 ys j = UInt8.ofNat (ys[j] % 3) := by unfold mod3; rw [ey]
      clear ex ey
      have HQ := Lib.hid (fun (W : World) (h : Ext wr W) => And.intro ((bcell h).1 b0 (o0 + j) (Nat.lt_of_lt_of_le hl0 hEx.size) |>.trans q0) ((bcell h).1 b1 (o1 + j) (Nat.lt_of_lt_of_le hl1 hEx.size) |>.trans q1))
      generalize xs[j] = a at q0 hxj hF HQ
      generalize ys[j] = b at q1 hyj hG HQ
      have hdn : diffN (mod3 xs) (mod3 ys) (j + 1) = diffN (mod3 xs) (mod3 ys) j + if b % 3 = a % 3 then 0 else 1 := by
        rw [diffN, hF, hG]
        simp only [ofNat3]
      obtain ⟨qF, hqF⟩ : ∃ q, secT (UInt8.ofNat (a % 3)) = q := ⟨_, rfl⟩
      obtain ⟨qG, hqG⟩ : ∃ q, secT (UInt8.ofNat (b % 3)) = q := ⟨_, rfl⟩
      have HA := Lib.hid (sec_call _ qF hqF ((a : Int) % 3) (by simp; omega))
      have HB := Lib.hid (sec_call _ qG hqG ((b : Int) % 3) (by simp; omega))
      have sF : qF.size = 16 := by rw [← hqF]; exact secT_size _
      have sG : qG.size = 16 := by rw [← hqG]; exact secT_size _
      have nF := txt_next (mod3 xs) j _ hF
      have nG := txt_next (mod3 ys) j _ hG
      rw [hqF] at nF
      rw [hqG] at nG
      have sQ := txt_size (mod3 xs) j
      have sP := txt_size (mod3 ys) j
      have hdl := diffN_le (mod3 xs) (mod3 ys) j
      generalize txt (mod3 xs) j = Q at nF sQ ⊢
      generalize txt (mod3 ys) j = P at nG sP ⊢
      obtain ⟨Q2, hQ2⟩ : ∃ q, txt (mod3 xs) (j + 1) = q := ⟨_, rfl⟩
      obtain ⟨P2, hP2⟩ : ∃ q, txt (mod3 ys) (j + 1) = q := ⟨_, rfl⟩
      rw [hQ2] at nF
      rw [hP2] at nG
      have HQ2 := Lib.hid hQ2
      have HP2 := Lib.hid hP2
      clear hQ2 hP2
      generalize diffN (mod3 xs) (mod3 ys) j = D at hdn hdl ⊢
      have hwd : IntKind.i64.wrap ((D : Int) + 1) = (D : Int) + 1 := IntWalk.i64_in _ (by omega)
      go_wp2_with fail
      refine (HA.out _).mono ?_
      rintro e w2 ⟨rfl, R2⟩
      clear q0 q1
      have q1 := (HQ.out _ R2).2
      go_wp2_with fail
      refine (HB.out _).mono ?_
      rintro e w3 ⟨rfl, R3⟩
      have R23 := R2.trans R3
      have hEx3 := hEx.trans R23
      clear q1 R2 R3 hEx HA HB
      have ta : (a : Int).tmod 3 = (a : Int) % 3 := Int.tmod_eq_emod_of_nonneg (by omega)
      have tb : (b : Int).tmod 3 = (b : Int) % 3 := Int.tmod_eq_emod_of_nonneg (by omega)
      have ua : IntKind.u8.wrap ((a : Int) % 3) = (a : Int) % 3 := by simp [IntKind.wrap, IntKind.bits, IntKind.signed]; omega
      have ub : IntKind.u8.wrap ((b : Int) % 3) = (b : Int) % 3 := by simp [IntKind.wrap, IntKind.bits, IntKind.signed]; omega
      go_upto_region 12 with fail
      by_cases hab : b % 3 = a % 3
      · rw [if_pos hab, Nat.add_zero] at hdn
        have dn : ((a : Int) % 3 != (b : Int) % 3) = false := by rw [bne_eq_false_iff_eq]; omega
        have dn2 : ((a : Int) % 3 == (b : Int) % 3) = true := by rw [beq_iff_eq]; omega
        have dn3 : decide ((a : Int) % 3 = (b : Int) % 3) = true := by rw [decide_eq_true_iff]; omega
        have HD := Lib.hid hdn
        clear hab hdn
        refine wp_typed (R := Ext) (w0 := w3) [[], [], [0, 1], [0, 1, 2], [0, 1, 2, 3], [], [], [5, 6], [5, 6, 7], [5, 6, 7, 8], [0, 1, 2, 3, 4, 5, 6, 7, 8, 9]] [48, 49, 50, 51, 52, 53, 54, 55, 56, 57, 58] Ext.refl (fun _ _ _ => Ext.trans) (Ext.drew _) (by kernel_rfl) ?_
        apply Build.det 48 Ext.refl (by rfl) (by rfl) rfl
        case h =>   -- 0: t48 := Op.move (tmp 0)
          intro ax wx hE hR hF
          have e0 : ax.eval (.tmp 0) = .slice (some ⟨b0, o0, none⟩) len cap := hE.eval 0 (by rfl) rfl
          simp [go_sem, BigFrame.eval_const, BigFrame.eval_global, BigFrame.eval_func, ↓IntWalk.iteOmega, ev e0, dn, dn2, dn3, ta, tb, ua, ub]
          with_reducible rfl
        apply Build.det 49 Ext.refl (by rfl) (by rfl) rfl
        case h =>   -- 1: t49 := Op.move (tmp 9)
          intro ax wx hE hR hF
          have e9 : ax.eval (.tmp 9) = .int .i64 j := hE.eval 9 (by rfl) rfl
          simp [go_sem, BigFrame.eval_const, BigFrame.eval_global, BigFrame.eval_func, ↓IntWalk.iteOmega, ev e9, dn, dn2, dn3, ta, tb, ua, ub]
          with_reducible rfl
        apply Build.det 50 Ext.refl (by rfl) (by rfl) rfl
        case h =>   -- 2: t50 := Op.indexAddr 22 (tmp 48) (tmp 49)
          intro ax wx hE hR hF
          have e48 : ax.eval (.tmp 48) = _ := hF 0 (det 48 _) (by decide) (.tail _ (.head _))
          have e49 : ax.eval (.tmp 49) = _ := hF 1 (det 49 _) (by decide) (.head _)
          simp [go_sem, BigFrame.eval_const, BigFrame.eval_global, BigFrame.eval_func, ↓IntWalk.iteOmega, ev e48, ev e49, dn, dn2, dn3, ta, tb, ua, ub]
          with_reducible rfl
        apply Build.det 51 Ext.refl (by rfl) (by rfl) rfl
        case h =>   -- 3: t51 := Op.load 5 (tmp 50)
          intro ax wx hE hR hF
          have e50 : ax.eval (.tmp 50) = _ := hF 2 (det 50 _) (by decide) (.head _)
          obtain ⟨q0, q1⟩ := HQ.out _ (R23.trans hR)
          simp [go_sem, BigFrame.eval_const, BigFrame.eval_global, BigFrame.eval_func, ↓IntWalk.iteOmega, ev e50, dn, dn2, dn3, ta, tb, ua, ub, q0, q1]
          with_reducible rfl
        apply Build.det 52 Ext.refl (by rfl) (by rfl) rfl
        case h =>   -- 4: t52 := Op.binOp BinOp.rem 5 (tmp 51) (const (Value.int IntKind.u8 3)) 5
          intro ax wx hE hR hF
          have e51 : ax.eval (.tmp 51) = _ := hF 3 (det 51 _) (by decide) (.head _)
          simp [go_sem, BigFrame.eval_const, BigFrame.eval_global, BigFrame.eval_func, ↓IntWalk.iteOmega, ev e51, dn, dn2, dn3, ta, tb, ua, ub]
          with_reducible rfl
        apply Build.det 53 Ext.refl (by rfl) (by rfl) rfl
        case h =>   -- 5: t53 := Op.move (tmp 1)
          intro ax wx hE hR hF
          have e1 : ax.eval (.tmp 1) = .slice (some ⟨b1, o1, none⟩) len' cap' := hE.eval 1 (by rfl) rfl
          simp [go_sem, BigFrame.eval_const, BigFrame.eval_global, BigFrame.eval_func, ↓IntWalk.iteOmega, ev e1, dn, dn2, dn3, ta, tb, ua, ub]
          with_reducible rfl
        apply Build.det 54 Ext.refl (by rfl) (by rfl) rfl
        case h =>   -- 6: t54 := Op.move (tmp 9)
          intro ax wx hE hR hF
          have e9 : ax.eval (.tmp 9) = .int .i64 j := hE.eval 9 (by rfl) rfl
          simp [go_sem, BigFrame.eval_const, BigFrame.eval_global, BigFrame.eval_func, ↓IntWalk.iteOmega, ev e9, dn, dn2, dn3, ta, tb, ua, ub]
          with_reducible rfl
        apply Build.det 55 Ext.refl (by rfl) (by rfl) rfl
        case h =>   -- 7: t55 := Op.indexAddr 22 (tmp 53) (tmp 54)
          intro ax wx hE hR hF
          have e53 : ax.eval (.tmp 53) = _ := hF 5 (det 53 _) (by decide) (.tail _ (.head _))
          have e54 : ax.eval (.tmp 54) = _ := hF 6 (det 54 _) (by decide) (.head _)
          simp [go_sem, BigFrame.eval_const, BigFrame.eval_global, BigFrame.eval_func, ↓IntWalk.iteOmega, ev e53, ev e54, dn, dn2, dn3, ta, tb, ua, ub]
          with_reducible rfl
        apply Build.det 56 Ext.refl (by rfl) (by rfl) rfl
        case h =>   -- 8: t56 := Op.load 5 (tmp 55)
          intro ax wx hE hR hF
          have e55 : ax.eval (.tmp 55) = _ := hF 7 (det 55 _) (by decide) (.head _)
          obtain ⟨q0, q1⟩ := HQ.out _ (R23.trans hR)
          simp [go_sem, BigFrame.eval_const, BigFrame.eval_global, BigFrame.eval_func, ↓IntWalk.iteOmega, ev e55, dn, dn2, dn3, ta, tb, ua, ub, q0, q1]
          with_reducible rfl
        apply Build.det 57 Ext.refl (by rfl) (by rfl) rfl
        case h =>   -- 9: t57 := Op.binOp BinOp.rem 5 (tmp 56) (const (Value.int IntKind.u8 3)) 5
          intro ax wx hE hR hF
          have e56 : ax.eval (.tmp 56) = _ := hF 8 (det 56 _) (by decide) (.head _)
          simp [go_sem, BigFrame.eval_const, BigFrame.eval_global, BigFrame.eval_func, ↓IntWalk.iteOmega, ev e56, dn, dn2, dn3, ta, tb, ua, ub]
          with_reducible rfl
        apply Build.det 58 Ext.refl (by rfl) (by rfl) rfl
        case h =>   -- 10: t58 := Op.binOp BinOp.neq 5 (tmp 52) (tmp 57) 5
          intro ax wx hE hR hF
          have e52 : ax.eval (.tmp 52) = _ := hF 4 (det 52 _) (by decide) (mem4 (.tail _ (.head _)))
          have e57 : ax.eval (.tmp 57) = _ := hF 9 (det 57 _) (by decide) (.head _)
          simp [go_sem, BigFrame.eval_const, BigFrame.eval_global, BigFrame.eval_func, ↓IntWalk.iteOmega, ev e52, ev e57, dn, dn2, dn3, ta, tb, ua, ub]
          with_reducible rfl
        apply Build.stop
        refine ⟨by kernel_rfl, .inl ⟨rfl, ?_⟩⟩
        intro ax w4 hE R4 hF
        have e48 : ax.eval (.tmp 48) = _ := hF 0 (det 48 _) (mem4 (mem4 (.tail _ (.tail _ (.head _)))))
        have e49 : ax.eval (.tmp 49) = _ := hF 1 (det 49 _) (mem4 (mem4 (.tail _ (.head _))))
        have e50 : ax.eval (.tmp 50) = _ := hF 2 (det 50 _) (mem4 (mem4 (.head _)))
        have e51 : ax.eval (.tmp 51) = _ := hF 3 (det 51 _) (mem4 (.tail _ (.tail _ (.tail _ (.head _)))))
        have e52 : ax.eval (.tmp 52) = _ := hF 4 (det 52 _) (mem4 (.tail _ (.tail _ (.head _))))
        have e53 : ax.eval (.tmp 53) = _ := hF 5 (det 53 _) (mem4 (.tail _ (.head _)))
        have e54 : ax.eval (.tmp 54) = _ := hF 6 (det 54 _) (mem4 (.head _))
        have e55 : ax.eval (.tmp 55) = _ := hF 7 (det 55 _) (.tail _ (.tail _ (.tail _ (.head _))))
        have e56 : ax.eval (.tmp 56) = _ := hF 8 (det 56 _) (.tail _ (.tail _ (.head _)))
        have e57 : ax.eval (.tmp 57) = _ := hF 9 (det 57 _) (.tail _ (.head _))
        have e58 : ax.eval (.tmp 58) = _ := hF 10 (det 58 _) (.head _)
        rw [AllEq.frame (D := [48, 49, 50, 51, 52, 53, 54, 55, 56, 57, 58]) (AllEq.cons e48 (AllEq.cons e49 (AllEq.cons e50 (AllEq.cons e51 (AllEq.cons e52 (AllEq.cons e53 (AllEq.cons e54 (AllEq.cons e55 (AllEq.cons e56 (AllEq.cons e57 (AllEq.cons e58 (AllEq.nil)))))))))))) hE rfl]
        clear hF hE e48 e49 e50 e51 e52 e53 e54 e55 e56 e57 e58
        simp only [List.foldl_cons, List.foldl_nil, Act.put, List.setIfInBounds_toArray, List.set_cons_succ, List.set_cons_zero]
        have hEx4 := hEx3.trans R4
        clear hEx3 R23 R4 HQ
        go_wp2_with fail
        go_roundw
        case rel => exact ⟨j + 1, by omega, by rw [HQ2.out] <;> rfl, by rw [HP2.out] <;> rfl, by rw [HD.out] <;> go_num, by go_num, hEx4⟩
        case measure => simp [intOf]; omega
      · rw [if_neg hab] at hdn
        have dn : ((a : Int) % 3 != (b : Int) % 3) = true := by rw [bne_iff_ne]; omega
        have dn2 : ((a : Int) % 3 == (b : Int) % 3) = false := by rw [beq_eq_false_iff_ne]; omega
        have dn3 : decide ((a : Int) % 3 = (b : Int) % 3) = false := by rw [decide_eq_false_iff_not]; omega
        have HD := Lib.hid hdn
        clear hab hdn
        refine wp_typed (R := Ext) (w0 := w3) [[], [], [0, 1], [0, 1, 2], [0, 1, 2, 3], [], [], [5, 6], [5, 6, 7], [5, 6, 7, 8], [0, 1, 2, 3, 4, 5, 6, 7, 8, 9]] [48, 49, 50, 51, 52, 53, 54, 55, 56, 57, 58] Ext.refl (fun _ _ _ => Ext.trans) (Ext.drew _) (by kernel_rfl) ?_
        apply Build.det 48 Ext.refl (by rfl) (by rfl) rfl
        case h =>   -- 0: t48 := Op.move (tmp 0)
          intro ax wx hE hR hF
          have e0 : ax.eval (.tmp 0) = .slice (some ⟨b0, o0, none⟩) len cap := hE.eval 0 (by rfl) rfl
          simp [go_sem, BigFrame.eval_const, BigFrame.eval_global, BigFrame.eval_func, ↓IntWalk.iteOmega, ev e0, dn, dn2, dn3, ta, tb, ua, ub]
          with_reducible rfl
        apply Build.det 49 Ext.refl (by rfl) (by rfl) rfl
        case h =>   -- 1: t49 := Op.move (tmp 9)
          intro ax wx hE hR hF
          have e9 : ax.eval (.tmp 9) = .int .i64 j := hE.eval 9 (by rfl) rfl
          simp [go_sem, BigFrame.eval_const, BigFrame.eval_global, BigFrame.eval_func, ↓IntWalk.iteOmega, ev e9, dn, dn2, dn3, ta, tb, ua, ub]
          with_reducible rfl
        apply Build.det 50 Ext.refl (by rfl) (by rfl) rfl
        case h =>   -- 2: t50 := Op.indexAddr 22 (tmp 48) (tmp 49)
          intro ax wx hE hR hF
          have e48 : ax.eval (.tmp 48) = _ := hF 0 (det 48 _) (by decide) (.tail _ (.head _))
          have e49 : ax.eval (.tmp 49) = _ := hF 1 (det 49 _) (by decide) (.head _)
          simp [go_sem, BigFrame.eval_const, BigFrame.eval_global, BigFrame.eval_func, ↓IntWalk.iteOmega, ev e48, ev e49, dn, dn2, dn3, ta, tb, ua, ub]
          with_reducible rfl
        apply Build.det 51 Ext.refl (by rfl) (by rfl) rfl
        case h =>   -- 3: t51 := Op.load 5 (tmp 50)
          intro ax wx hE hR hF
          have e50 : ax.eval (.tmp 50) = _ := hF 2 (det 50 _) (by decide) (.head _)
          obtain ⟨q0, q1⟩ := HQ.out _ (R23.trans hR)
          simp [go_sem, BigFrame.eval_const, BigFrame.eval_global, BigFrame.eval_func, ↓IntWalk.iteOmega, ev e50, dn, dn2, dn3, ta, tb, ua, ub, q0, q1]
          with_reducible rfl
        apply Build.det 52 Ext.refl (by rfl) (by rfl) rfl
        case h =>   -- 4: t52 := Op.binOp BinOp.rem 5 (tmp 51) (const (Value.int IntKind.u8 3)) 5
          intro ax wx hE hR hF
          have e51 : ax.eval (.tmp 51) = _ := hF 3 (det 51 _) (by decide) (.head _)
          simp [go_sem, BigFrame.eval_const, BigFrame.eval_global, BigFrame.eval_func, ↓IntWalk.iteOmega, ev e51, dn, dn2, dn3, ta, tb, ua, ub]
          with_reducible rfl
        apply Build.det 53 Ext.refl (by rfl) (by rfl) rfl
        case h =>   -- 5: t53 := Op.move (tmp 1)
          intro ax wx hE hR hF
          have e1 : ax.eval (.tmp 1) = .slice (some ⟨b1, o1, none⟩) len' cap' := hE.eval 1 (by rfl) rfl
          simp [go_sem, BigFrame.eval_const, BigFrame.eval_global, BigFrame.eval_func, ↓IntWalk.iteOmega, ev e1, dn, dn2, dn3, ta, tb, ua, ub]
          with_reducible rfl
        apply Build.det 54 Ext.refl (by rfl) (by rfl) rfl
        case h =>   -- 6: t54 := Op.move (tmp 9)
          intro ax wx hE hR hF
          have e9 : ax.eval (.tmp 9) = .int .i64 j := hE.eval 9 (by rfl) rfl
          simp [go_sem, BigFrame.eval_const, BigFrame.eval_global, BigFrame.eval_func, ↓IntWalk.iteOmega, ev e9, dn, dn2, dn3, ta, tb, ua, ub]
          with_reducible rfl
        apply Build.det 55 Ext.refl (by rfl) (by rfl) rfl
        case h =>   -- 7: t55 := Op.indexAddr 22 (tmp 53) (tmp 54)
          intro ax wx hE hR hF
          have e53 : ax.eval (.tmp 53) = _ := hF 5 (det 53 _) (by decide) (.tail _ (.head _))
          have e54 : ax.eval (.tmp 54) = _ := hF 6 (det 54 _) (by decide) (.head _)
          simp [go_sem, BigFrame.eval_const, BigFrame.eval_global, BigFrame.eval_func, ↓IntWalk.iteOmega, ev e53, ev e54, dn, dn2, dn3, ta, tb, ua, ub]
          with_reducible rfl
        apply Build.det 56 Ext.refl (by rfl) (by rfl) rfl
        case h =>   -- 8: t56 := Op.load 5 (tmp 55)
          intro ax wx hE hR hF
          have e55 : ax.eval (.tmp 55) = _ := hF 7 (det 55 _) (by decide) (.head _)
          obtain ⟨q0, q1⟩ := HQ.out _ (R23.trans hR)
          simp [go_sem, BigFrame.eval_const, BigFrame.eval_global, BigFrame.eval_func, ↓IntWalk.iteOmega, ev e55, dn, dn2, dn3, ta, tb, ua, ub, q0, q1]
          with_reducible rfl
        apply Build.det 57 Ext.refl (by rfl) (by rfl) rfl
        case h =>   -- 9: t57 := Op.binOp BinOp.rem 5 (tmp 56) (const (Value.int IntKind.u8 3)) 5
          intro ax wx hE hR hF
          have e56 : ax.eval (.tmp 56) = _ := hF 8 (det 56 _) (by decide) (.head _)
          simp [go_sem, BigFrame.eval_const, BigFrame.eval_global, BigFrame.eval_func, ↓IntWalk.iteOmega, ev e56, dn, dn2, dn3, ta, tb, ua, ub]
          with_reducible rfl
        apply Build.det 58 Ext.refl (by rfl) (by rfl) rfl
        case h =>   -- 10: t58 := Op.binOp BinOp.neq 5 (tmp 52) (tmp 57) 5
          intro ax wx hE hR hF
          have e52 : ax.eval (.tmp 52) = _ := hF 4 (det 52 _) (by decide) (mem4 (.tail _ (.head _)))
          have e57 : ax.eval (.tmp 57) = _ := hF 9 (det 57 _) (by decide) (.head _)
          simp [go_sem, BigFrame.eval_const, BigFrame.eval_global, BigFrame.eval_func, ↓IntWalk.iteOmega, ev e52, ev e57, dn, dn2, dn3, ta, tb, ua, ub]
          with_reducible rfl
        apply Build.stop
        refine ⟨by kernel_rfl, .inl ⟨rfl, ?_⟩⟩
        intro ax w4 hE R4 hF
        have e48 : ax.eval (.tmp 48) = _ := hF 0 (det 48 _) (mem4 (mem4 (.tail _ (.tail _ (.head _)))))
        have e49 : ax.eval (.tmp 49) = _ := hF 1 (det 49 _) (mem4 (mem4 (.tail _ (.head _))))
        have e50 : ax.eval (.tmp 50) = _ := hF 2 (det 50 _) (mem4 (mem4 (.head _)))
        have e51 : ax.eval (.tmp 51) = _ := hF 3 (det 51 _) (mem4 (.tail _ (.tail _ (.tail _ (.head _)))))
        have e52 : ax.eval (.tmp 52) = _ := hF 4 (det 52 _) (mem4 (.tail _ (.tail _ (.head _))))
        have e53 : ax.eval (.tmp 53) = _ := hF 5 (det 53 _) (mem4 (.tail _ (.head _)))
        have e54 : ax.eval (.tmp 54) = _ := hF 6 (det 54 _) (mem4 (.head _))
        have e55 : ax.eval (.tmp 55) = _ := hF 7 (det 55 _) (.tail _ (.tail _ (.tail _ (.head _))))
        have e56 : ax.eval (.tmp 56) = _ := hF 8 (det 56 _) (.tail _ (.tail _ (.head _)))
        have e57 : ax.eval (.tmp 57) = _ := hF 9 (det 57 _) (.tail _ (.head _))
        have e58 : ax.eval (.tmp 58) = _ := hF 10 (det 58 _) (.head _)
        rw [AllEq.frame (D := [48, 49, 50, 51, 52, 53, 54, 55, 56, 57, 58]) (AllEq.cons e48 (AllEq.cons e49 (AllEq.cons e50 (AllEq.cons e51 (AllEq.cons e52 (AllEq.cons e53 (AllEq.cons e54 (AllEq.cons e55 (AllEq.cons e56 (AllEq.cons e57 (AllEq.cons e58 (AllEq.nil)))))))))))) hE rfl]
        clear hF hE e48 e49 e50 e51 e52 e53 e54 e55 e56 e57 e58
        simp only [List.foldl_cons, List.foldl_nil, Act.put, List.setIfInBounds_toArray, List.set_cons_succ, List.set_cons_zero]
        have hEx4 := hEx3.trans R4
        clear hEx3 R23 R4 HQ
        go_wp2_with fail
        go_roundw
        case rel => exact ⟨j + 1, by omega, by rw [HQ2.out] <;> rfl, by rw [HP2.out] <;> rfl, by rw [HD.out] <;> go_num, by go_num, hEx4⟩
        case measure => simp [intOf]; omega
    · obtain rfl : j = n := by omega
      obtain ⟨K, hK⟩ : ∃ K, (ofTo (txt (mod3 xs) j) (txt (mod3 ys) j) j).length = K := ⟨_, rfl⟩
      have hK' : (ofTo (txt (mod3 ys) j) (txt (mod3 xs) j) j).length = K := by rw [← hK]; exact len_ofTo _ _ j j (txt_size _ _) (txt_size _ _) (Nat.le_refl _)
      have hKl : K ≤ 60 := by have := ofTo_len (txt (mod3 xs) j) (txt (mod3 ys) j) j; omega
      have hj6 : j ≤ 1000000 := by omega
      have e1 : txt (fun i => if mod3 ys i = mod3 xs i then mod3 xs i else mod3 ys i) j = txt (mod3 ys) j := by
        rw [txt_eq]; intro i _; split <;> simp_all
      have e2 : txt (fun i => if mod3 xs i = mod3 ys i then mod3 ys i else mod3 xs i) j = txt (mod3 xs) j := by
        rw [txt_eq]; intro i _; split <;> simp_all
      have e3 : txt (fun i => if mod3 ys i = mod3 xs i then mod3 ys i else mod3 ys i) j = txt (mod3 ys) j := by
        rw [txt_eq]; intro i _; simp
      have O1 := fun W => of_txt (mod3 xs) (mod3 ys) j hj6 W
      have O2 := fun W => of_txt (mod3 ys) (mod3 xs) j hj6 W
      have P1 := fun W A c => apply_call (mod3 xs) (mod3 ys) (mod3 xs) j hj6 _ e1 A K c W hK
      have P2 := fun W A c => apply_call (mod3 ys) (mod3 xs) (mod3 ys) j hj6 _ e2 A K c W hK'
      have P3 := fun W A c => apply_call (mod3 xs) (mod3 ys) (mod3 ys) j hj6 _ e3 A K c W hK
      have HGD := Lib.hid (fun W A c => good_call (mod3 xs) (mod3 ys) j hj6 A K c W hK)
      obtain ⟨N, hN⟩ : ∃ N, diffN (mod3 xs) (mod3 ys) j = N := ⟨_, rfl⟩
      have HSZ := Lib.hid (fun W A c => size_call (mod3 xs) (mod3 ys) j hj6 N hN A K c W hK)
      rw [hK] at O1
      rw [hK'] at O2
      have hnil : K = 0 ↔ txt (mod3 xs) j = txt (mod3 ys) j := by
        rw [← hK, List.length_eq_zero_iff, ofTo_nil, eq_iff_sec _ _ j (txt_size _ _) (txt_size _ _)]
      rw [hN]
      generalize txt (mod3 xs) j = S at O1 O2 P1 P2 P3 HGD HSZ hnil ⊢
      generalize txt (mod3 ys) j = T at O1 O2 P1 P2 P3 HGD HSZ hnil ⊢
      have HO1 := Lib.hid O1
      have HO2 := Lib.hid O2
      have HP1 := Lib.hid P1
      have HP2 := Lib.hid P2
      have HP3 := Lib.hid P3
      obtain ⟨B, hB⟩ : ∃ B, ((K : Int) == 0) = B := ⟨_, rfl⟩
      have hST : (S.toList == T.toList) = B := by
        by_cases h : K = 0
        · rw [← hB, h, hnil.1 h]; simp
        · rw [str_ne (fun e => h (hnil.2 e)), ← hB, eq_comm, beq_eq_false_iff_ne]; omega
      clear hK hK' e1 e2 e3 O1 O2 P1 P2 P3 hN hnil
      go_wp2_with fail
      refine (HO1.out _).mono ?_
      rintro e w2 ⟨A1, c1, rfl, r1, R2⟩
      have hEx2 := hEx.trans R2
      have HR1 := Lib.hid r1
      clear r1 R2 hEx
      go_wp2_with fail
      refine (HO2.out _).mono ?_
      rintro e w3 ⟨A2, c2, rfl, r2, R3⟩
      have hEx3 := hEx2.trans R3
      have HR1' := Lib.hid (HR1.out.extx R3)
      have HR2 := Lib.hid r2
      clear r2 R3 hEx2 HR1
      go_wp2_with fail
      refine (HSZ.out _ _ _ HR1'.out).mono ?_
      rintro e w4 ⟨rfl, R4⟩
      go_wp2_with fail
      refine (HGD.out _ _ _ (HR1'.out.extx R4)).mono ?_
      rintro e w5 ⟨rfl, R5⟩
      have R45 := R4.trans R5
      clear R4 R5 HSZ HGD
      cases B
      all_goals
        go_wp2_with fail
        refine (HP1.out _ _ _ (HR1'.out.extx R45)).mono ?_
        rintro e w6 ⟨rfl, R6⟩
        have R46 := R45.trans R6
        go_wp2_with fail
        refine (HP2.out _ _ _ (HR2.out.extx R46)).mono ?_
        rintro e w7 ⟨rfl, R7⟩
        have R47 := R46.trans R7
        go_wp2_with fail
        refine (HP3.out _ _ _ (HR1'.out.extx R47)).mono ?_
        rintro e w8 ⟨rfl, R8⟩
        have hEx8 := hEx3.trans (R47.trans R8)
        have hSS : (S.toList == S.toList) = true := by simp
        have hTT : (T.toList == T.toList) = true := by simp
        clear R45 R6 R46 R7 R47 R8 hST hB
        go_wp2_with fail
        go_ret
        exact ⟨rfl, hEx8⟩
theorem diffBack_walk (w : World) (v0 v1 : Value) (h0 : Arg Try.prog w 22 v0) (h1 : Arg Try.prog w 22 v1) :
    Calls Try.prog 3 #[v0, v1] w fun e w' => e = .returned (.bool true) ∧ Below w.heap.size w w' := by
  obtain ⟨A, len, cap, xs, rfl, h2, h3, h4, h5⟩ := arg_bytes h0
  obtain ⟨A', len', cap', ys, rfl, h2', h3', h4', h5'⟩ := arg_bytes h1
  exact diffBack_core A A' len cap len' cap' xs ys w h3 h3' h2 h2' h4 h4' h5 h5'
end Go.Proofs.Ytoiifcmjmjkcaaa

/- DiffThree: changes of sectors that don't meet can be laid on in any order; of the same sectors the last ones stay. -/
namespace Go.Proofs.Ytoiifcmjmjkcaaa
set_option linter.unusedVariables false
set_option linter.unusedSimpArgs false
open Go.RowKit

/-- The four texts' bytes. -/
def th0 (xs : List Nat) (i : Nat) : UInt8 := UInt8.ofNat (xs.getD i 0)
def thX (fs : List Bool) (i : Nat) : Bool := fs.getD i false
def thY (ap : Bool) (fs gs : List Bool) (i : Nat) : Bool := gs.getD i false && !(ap && fs.getD i false)
def th1 (xs : List Nat) (fs : List Bool) (i : Nat) : UInt8 := if thX fs i then th0 xs i + 1 else th0 xs i
def th2 (ap : Bool) (xs : List Nat) (fs gs : List Bool) (i : Nat) : UInt8 := if thY ap fs gs i then th0 xs i + 2 else th0 xs i
def th3 (ap : Bool) (xs : List Nat) (fs gs : List Bool) (i : Nat) : UInt8 := if thY ap fs gs i then th0 xs i + 2 else if thX fs i then th0 xs i + 1 else th0 xs i
theorem add1_ne (b : UInt8) : ¬ b + 1 = b := by
  intro h
  have := congrArg UInt8.toNat h
  have hb := b.toNat_lt
  simp at this
  omega
theorem add2_ne (b : UInt8) : ¬ b + 2 = b := by
  intro h
  have := congrArg UInt8.toNat h
  have hb := b.toNat_lt
  simp at this
  omega
theorem three_a (ap : Bool) (xs : List Nat) (fs gs : List Bool) (n : Nat) : txt (fun i => if th2 ap xs fs gs i = th0 xs i then th1 xs fs i else th2 ap xs fs gs i) n = txt (th3 ap xs fs gs) n := by
  rw [txt_eq]
  intro i _
  unfold th3 th2 th1
  cases thY ap fs gs i
  · simp
  · simp [add2_ne]
theorem three_b (xs : List Nat) (fs gs : List Bool) (n : Nat) : txt (fun i => if th1 xs fs i = th0 xs i then th2 true xs fs gs i else th1 xs fs i) n = txt (th3 true xs fs gs) n := by
  rw [txt_eq]
  intro i _
  unfold th3 th2 th1 thY thX
  cases fs.getD i false <;> cases gs.getD i false <;> simp [add1_ne]
theorem run_min4 (ats : Array TypeId) (ty : TypeId) (a b c d : Int) (w : World) : (Builtin.min_ ats ty #[.int .i64 a, .int .i64 b, .int .i64 c, .int .i64 d]).run Try.prog w = .ok (.int .i64 (if d < (if c < (if b < a then b else a) then c else (if b < a then b else a)) then d else (if c < (if b < a then b else a) then c else (if b < a then b else a)))) w := by
  simp [Builtin.min_, Builtin.min2, List.foldlM]
set_option maxRecDepth 100000 in
set_option maxHeartbeats 8000000 in
theorem diffThree_core (A A1 A2 : Option Addr) (len cap len1 cap1 len2 cap2 : Nat) (xs : List Nat) (fs gs : List Bool) (ap : Bool) (w : World) (hlen : xs.length = len) (hlen1 : fs.length = len1) (hlen2 : gs.length = len2) (hm : len ≤ maxLen) (hm1 : len1 ≤ maxLen) (hm2 : len2 ≤ maxLen) (hx : ∀ x ∈ xs, x < 256) (hrow : Row1 w A (fun n : Nat => Value.int .u8 n) xs) (hrow1 : Row1 w A1 Value.bool fs) (hrow2 : Row1 w A2 Value.bool gs) :
    Calls Try.prog 4 #[.slice A len cap, .slice A1 len1 cap1, .slice A2 len2 cap2, .bool ap] w fun e w' => e = .returned (.bool true) ∧ Ext w w' := by
  unfold maxLen at hm hm1 hm2
  obtain ⟨n, hn⟩ : ∃ n, min (min (min len len1) len2) 60 = n := ⟨_, rfl⟩
  have hn0 : n ≤ len := by omega
  have hn1 : n ≤ len1 := by omega
  have hn2 : n ≤ len2 := by omega
  have hn60 : n ≤ 60 := by omega
  obtain ⟨m1, hq1⟩ : ∃ m : Nat, min len len1 = m := ⟨_, rfl⟩
  obtain ⟨m2, hq2⟩ : ∃ m : Nat, min m1 len2 = m := ⟨_, rfl⟩
  have hmin1 : (if (len1 : Int) < (len : Int) then (len1 : Int) else (len : Int)) = (m1 : Int) := by split <;> omega
  have hmin2 : (if len1 < len then (len1 : Int) else (len : Int)) = (m1 : Int) := by split <;> omega
  have hmin3 : (if (len2 : Int) < (m1 : Int) then (len2 : Int) else (m1 : Int)) = (m2 : Int) := by split <;> omega
  have hmin4 : (if len2 < m1 then (len2 : Int) else (m1 : Int)) = (m2 : Int) := by split <;> omega
  have hmin5 : (if (60 : Int) < (m2 : Int) then 60 else (m2 : Int)) = (n : Int) := by split <;> omega
  have hmin6 : (if 60 < m2 then 60 else (m2 : Int)) = (n : Int) := by split <;> omega
  have hmn : ∀ W : World, (Builtin.min_ #[3, 3, 3, 3] 3 #[.int .i64 (len : Int), .int .i64 (len1 : Int), .int .i64 (len2 : Int), .int .i64 60]).run Try.prog W = .ok (.int .i64 (n : Int)) W := fun W => by
    rw [run_min4, hmin1, hmin3, hmin5]
  clear hn hq1 hq2 hmin1 hmin2 hmin3 hmin4 hmin5 hmin6
  go_enter Try.func4, Try.ntmps4
  go_wp2_with fail
  refine (awake30 _).mono ?_
  rintro e w1 ⟨rfl, R1⟩
  go_upto_region 9 with fail
  clear hmn
  go_loopw [10, 11, 12, 13, 14, 15, 16, 17, 18, 19] (fun s t u v i _ _ _ _ _ wr => ∃ j : Nat, j ≤ n ∧ s = .string (txt (th0 xs) j) ∧ t = .string (txt (th1 xs fs) j) ∧ u = .string (txt (th2 ap xs fs gs) j) ∧ v = .string (txt (th3 ap xs fs gs) j) ∧ i = .int .i64 j ∧ Ext w wr) (fun _ _ _ _ i _ _ _ _ _ _ => n - (intOf i).toNat)
  case atStart => exact ⟨0, by omega, rfl, rfl, rfl, rfl, rfl, R1⟩
  case round =>
    clear R1
    obtain ⟨j, hj, rfl, rfl, rfl, rfl, rfl, hEx⟩ := hrel
    by_cases hlt : j < n
    · have hjx : j < xs.length := by omega
      have hjf : j < fs.length := by omega
      have hjg : j < gs.length := by omega
      obtain ⟨b0, o0, rfl, hl0, q0⟩ := hrow.in_ hEx hjx
      obtain ⟨b1, o1, rfl, hl1, q1⟩ := hrow1.in_ hEx hjf
      obtain ⟨b2, o2, rfl, hl2, q2⟩ := hrow2.in_ hEx hjg
      have ea : xs.getD j 0 = xs[j] := by simp [List.getD, hjx]
      have ef : fs.getD j false = fs[j] := by simp [List.getD, hjf]
      have eg : gs.getD j false = gs[j] := by simp [List.getD, hjg]
      have hxj := hx _ (List.getElem_mem hjx)
      have t0 : th0 xs j = UInt8.ofNat xs[j] := by unfold th0; rw [ea]
      have t1 : th1 xs fs j = if fs[j] = true then UInt8.ofNat xs[j] + 1 else UInt8.ofNat xs[j] := by unfold th1 thX; rw [t0, ef]
      have t2 : th2 ap xs fs gs j = if (gs[j] && !(ap && fs[j])) = true then UInt8.ofNat xs[j] + 2 else UInt8.ofNat xs[j] := by unfold th2 thY; rw [t0, ef, eg]
      have t3 : th3 ap xs fs gs j = if (gs[j] && !(ap && fs[j])) = true then UInt8.ofNat xs[j] + 2 else if fs[j] = true then UInt8.ofNat xs[j] + 1 else UInt8.ofNat xs[j] := by unfold th3 thY thX; rw [t0, ef, eg]
      clear ea ef eg
      have HQ := Lib.hid (fun (W : World) (h : Ext wr W) => ((bcell h).1 b0 (o0 + j) (Nat.lt_of_lt_of_le hl0 hEx.size)).trans q0)
      generalize xs[j] = a at q0 hxj t0 t1 t2 t3 HQ
      generalize fs[j] = F at q1 t1 t2 t3
      generalize gs[j] = G at q2 t2 t3
      obtain ⟨k1, hk1⟩ : ∃ k : Int, ((a : Int) + 1) % 256 = k := ⟨_, rfl⟩
      obtain ⟨k2, hk2⟩ : ∃ k : Int, ((a : Int) + 2) % 256 = k := ⟨_, rfl⟩
      have n0 := txt_next (th0 xs) j _ rfl
      have n1 := txt_next (th1 xs fs) j _ rfl
      have n2 := txt_next (th2 ap xs fs gs) j _ rfl
      have n3 := txt_next (th3 ap xs fs gs) j _ rfl
      have u0 : (UInt8.ofNat a).toNat = a := by simp; omega
      have u1 : ((UInt8.ofNat a + 1).toNat : Int) = k1 := by rw [← hk1]; simp
      have u2 : ((UInt8.ofNat a + 2).toNat : Int) = k2 := by rw [← hk2]; simp
      obtain ⟨d0, hd0⟩ : ∃ q, secT (th0 xs j) = q := ⟨_, rfl⟩
      obtain ⟨d1, hd1⟩ : ∃ q, secT (th1 xs fs j) = q := ⟨_, rfl⟩
      obtain ⟨d2, hd2⟩ : ∃ q, secT (th2 ap xs fs gs j) = q := ⟨_, rfl⟩
      obtain ⟨d3, hd3⟩ : ∃ q, secT (th3 ap xs fs gs j) = q := ⟨_, rfl⟩
      have z0 : d0.size = 16 := by rw [← hd0]; exact secT_size _
      have z1 : d1.size = 16 := by rw [← hd1]; exact secT_size _
      have z2 : d2.size = 16 := by rw [← hd2]; exact secT_size _
      have z3 : d3.size = 16 := by rw [← hd3]; exact secT_size _
      have H0 := Lib.hid (sec_call _ d0 hd0 (a : Int) (by rw [t0, u0]))
      have H1 := Lib.hid (sec_call _ d1 hd1 (if F = true then k1 else (a : Int)) (by rw [t1]; split <;> omega))
      have H2 := Lib.hid (sec_call _ d2 hd2 (if (G && !(ap && F)) = true then k2 else (a : Int)) (by rw [t2]; split <;> omega))
      have H3 := Lib.hid (sec_call _ d3 hd3 (if (G && !(ap && F)) = true then k2 else if F = true then k1 else (a : Int)) (by rw [t3]; split; omega; split <;> omega))
      rw [hd0] at n0
      rw [hd1] at n1
      rw [hd2] at n2
      rw [hd3] at n3
      have s0 := txt_size (th0 xs) j
      have s1 := txt_size (th1 xs fs) j
      have s2 := txt_size (th2 ap xs fs gs) j
      have s3 := txt_size (th3 ap xs fs gs) j
      obtain ⟨x0, hx0⟩ : ∃ q, txt (th0 xs) (j + 1) = q := ⟨_, rfl⟩
      obtain ⟨x1, hx1⟩ : ∃ q, txt (th1 xs fs) (j + 1) = q := ⟨_, rfl⟩
      obtain ⟨x2, hx2⟩ : ∃ q, txt (th2 ap xs fs gs) (j + 1) = q := ⟨_, rfl⟩
      obtain ⟨x3, hx3⟩ : ∃ q, txt (th3 ap xs fs gs) (j + 1) = q := ⟨_, rfl⟩
      rw [hx0] at n0
      rw [hx1] at n1
      rw [hx2] at n2
      rw [hx3] at n3
      have G0 := Lib.hid hx0
      have G1 := Lib.hid hx1
      have G2 := Lib.hid hx2
      have G3 := Lib.hid hx3
      generalize txt (th0 xs) j = y0 at n0 s0 ⊢
      generalize txt (th1 xs fs) j = y1 at n1 s1 ⊢
      generalize txt (th2 ap xs fs gs) j = y2 at n2 s2 ⊢
      generalize txt (th3 ap xs fs gs) j = y3 at n3 s3 ⊢
      clear t0 t1 t2 t3 u0 u1 u2 hd0 hd1 hd2 hd3 hx0 hx1 hx2 hx3 hx hrow hrow1 hrow2
      cases F <;> cases G <;> cases ap
      all_goals
        go_wp2_with fail
        refine (H0.out _).mono ?_
        rintro e w2 ⟨rfl, R2⟩
        have p0 := HQ.out _ R2
        clear q0 q1 q2 H0 HQ
        go_wp2_with fail
        refine (H1.out _).mono ?_
        rintro e w3 ⟨rfl, R3⟩
        clear p0 H1
        go_wp2_with fail
        refine (H2.out _).mono ?_
        rintro e w4 ⟨rfl, R4⟩
        clear H2
        go_wp2_with fail
        refine (H3.out _).mono ?_
        rintro e w5 ⟨rfl, R5⟩
        have hEx5 := hEx.trans (((R2.trans R3).trans R4).trans R5)
        clear H3 R2 R3 R4 R5 hEx
        go_wp2_with fail
        go_roundw
        case rel => exact ⟨j + 1, by omega, by rw [G0.out] <;> rfl, by rw [G1.out] <;> rfl, by rw [G2.out] <;> rfl, by rw [G3.out] <;> rfl, by go_num, hEx5⟩
        case measure => simp [intOf]; omega
    · obtain rfl : j = n := by omega
      obtain ⟨K1, hK1⟩ : ∃ K, (ofTo (txt (th0 xs) j) (txt (th1 xs fs) j) j).length = K := ⟨_, rfl⟩
      obtain ⟨K2, hK2⟩ : ∃ K, (ofTo (txt (th0 xs) j) (txt (th2 ap xs fs gs) j) j).length = K := ⟨_, rfl⟩
      have hKl1 : K1 ≤ 60 := by have := ofTo_len (txt (th0 xs) j) (txt (th1 xs fs) j) j; omega
      have hKl2 : K2 ≤ 60 := by have := ofTo_len (txt (th0 xs) j) (txt (th2 ap xs fs gs) j) j; omega
      have hj6 : j ≤ 1000000 := by omega
      obtain ⟨q2, hq2⟩ : ∃ q, txt (fun i => if th1 xs fs i = th0 xs i then th2 ap xs fs gs i else th1 xs fs i) j = q := ⟨_, rfl⟩
      have O1 := fun W => of_txt (th0 xs) (th1 xs fs) j hj6 W
      have O2 := fun W => of_txt (th0 xs) (th2 ap xs fs gs) j hj6 W
      have P1 := fun W A c => apply_call (th0 xs) (th2 ap xs fs gs) (th1 xs fs) j hj6 _ (three_a ap xs fs gs j) A K2 c W hK2
      have P2 := fun W A c => apply_call (th0 xs) (th1 xs fs) (th2 ap xs fs gs) j hj6 q2 hq2 A K1 c W hK1
      rw [hK1] at O1
      rw [hK2] at O2
      have hqb : ap = true → q2 = txt (th3 ap xs fs gs) j := fun h => by subst h; rw [← hq2]; exact three_b xs fs gs j
      generalize txt (th0 xs) j = T0 at O1 O2 P1 P2 ⊢
      generalize txt (th1 xs fs) j = T1 at O1 P1 P2 ⊢
      generalize txt (th2 ap xs fs gs) j = T2 at O2 P1 P2 ⊢
      generalize txt (th3 ap xs fs gs) j = T3 at P1 hqb ⊢
      have HO1 := Lib.hid O1
      have HO2 := Lib.hid O2
      have HP1 := Lib.hid P1
      have HP2 := Lib.hid P2
      have HQB := Lib.hid hqb
      clear hK1 hK2 hq2 O1 O2 P1 P2 hqb
      go_wp2_with fail
      refine (HO1.out _).mono ?_
      rintro e w2 ⟨A1', c1, rfl, r1, R2⟩
      have hEx2 := hEx.trans R2
      have HR1 := Lib.hid r1
      clear r1 R2 hEx
      go_wp2_with fail
      refine (HO2.out _).mono ?_
      rintro e w3 ⟨A2', c2, rfl, r2, R3⟩
      have hEx3 := hEx2.trans R3
      have HR1' := Lib.hid (HR1.out.extx R3)
      have HR2 := Lib.hid r2
      clear r2 R3 hEx2 HR1
      go_wp2_with fail
      refine (HP1.out _ _ _ HR2.out).mono ?_
      rintro e w4 ⟨rfl, R4⟩
      go_wp2_with fail
      refine (HP2.out _ _ _ (HR1'.out.extx R4)).mono ?_
      rintro e w5 ⟨rfl, R5⟩
      have hEx5 := hEx3.trans (R4.trans R5)
      have h33 : (T3.toList == T3.toList) = true := by simp
      clear R4 R5 hEx3 HO1 HO2 HP1 HP2
      cases ap
      · go_wp2_with fail
        go_ret
        exact ⟨rfl, hEx5⟩
      · have hq3 : (q2.toList == T3.toList) = true := by rw [HQB.out rfl]; simp
        go_wp2_with fail
        go_ret
        exact ⟨rfl, hEx5⟩
theorem diffThree_walk (w : World) (v0 v1 v2 v3 : Value) (h0 : Arg Try.prog w 22 v0) (h1 : Arg Try.prog w 34 v1) (h2 : Arg Try.prog w 34 v2) (h3 : Arg Try.prog w 4 v3) :
    Calls Try.prog 4 #[v0, v1, v2, v3] w fun e w' => e = .returned (.bool true) ∧ Below w.heap.size w w' := by
  obtain ⟨A, len, cap, xs, rfl, g2, g3, g4, g5⟩ := arg_bytes h0
  obtain ⟨A1, len1, cap1, fs, rfl, k1, k2, k3, k4⟩ := arg_bools Try.underlying34 Try.underlying4 (by kernel_rfl) h1
  obtain ⟨A2, len2, cap2, gs, rfl, l1, l2, l3, l4⟩ := arg_bools Try.underlying34 Try.underlying4 (by kernel_rfl) h2
  obtain ⟨ap, rfl⟩ := arg_bool Try.underlying4 h3
  exact diffThree_core A A1 A2 len cap len1 cap1 len2 cap2 xs fs gs ap w g3 k3 l3 g2 (by omega) (by omega) g4 g5 k4 l4
end Go.Proofs.Ytoiifcmjmjkcaaa
