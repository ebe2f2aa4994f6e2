/- leaf's reference: Pairs. -/
import Derived.Test.YtngehbhhpkkijaaKTreeBuilds10
import Derived.Laws.StructEq
import Derived.Test.YtngehbhhpkkijaaKTreeBuilds26
import Derived.Test.YtngehbhhpkkijaaKTreeBuilds32
namespace Go.Proofs.Ytngehbhhpkkijaa
attribute [local simp] BigFrame.eval_const BigFrame.eval_global BigFrame.eval_func
set_option linter.unusedVariables false
set_option linter.unusedSimpArgs false
open Go.RowKit

theorem Z5l : Try.prog.underlying 38 = some (.struct (Try.prog.fieldsOf 38)) := by kernel_rfl
theorem Z7q : Try.prog.stoodInHeld 38 = false := by kernel_rfl
theorem part_p0 (w : World) (x y : Value) : (part 30 #[x, y] 0).run Try.prog w = .ok x w := by kernel_rfl
theorem part_p1 (w : World) (x y : Value) : (part 30 #[x, y] 1).run Try.prog w = .ok y w := by kernel_rfl
theorem eq_pair (d : Nat) (a b a' b' : Int) (w : World) : (Op.equalIn (d + 2) 38 (.agg #[.int .u64 a, .int .u64 b]) (.agg #[.int .u64 a', .int .u64 b'])).run Try.prog w = .ok ((a == a') && (b == b')) w := by
  have h0 := fun W x y => run_equalIn_int (P := Try.prog) W d 30 .u64 .u64 x y Try.underlying30
  rw [run_equalIn_struct w (d + 1) _ _ _ Z5l Z7q]
  have hf : (Try.prog.fieldsOf 38).toList.map (fun f => (f.name, f.type, f.offset)) = [("Key", 30, 0), ("Val", 30, 1)] := by kernel_rfl
  generalize (Try.prog.fieldsOf 38).toList = L at hf ⊢
  obtain ⟨f, g, rfl⟩ : ∃ f g, L = [f, g] := by
    rcases L with _ | ⟨f, _ | ⟨g, _ | ⟨h, L⟩⟩⟩
    · exact absurd (congrArg List.length hf) (by simp)
    · exact absurd (congrArg List.length hf) (by simp)
    · exact ⟨f, g, rfl⟩
    · exact absurd (congrArg List.length hf) (by simp)
  simp only [List.map_cons, List.map_nil, List.cons.injEq, Prod.mk.injEq, and_true] at hf
  obtain ⟨⟨n1, t1, o1⟩, n2, t2, o2⟩ := hf
  by_cases ha : a = a' <;> by_cases hb : b = b' <;> simp [Op.eqFields, n1, n2, t1, t2, o1, o2, Sem.run_bind, Sem.run_ite, part_p0, part_p1, h0, ha, hb]

theorem Row.pair_at {w w' : World} {b o : Nat} {xs : List (Nat × Nat)} (h : Row w (some ⟨b, o, none⟩) 2 pairC xs) (hb : Below w.heap.size w w') {j : Nat} (hj : j < xs.length) : w'.cell? ⟨b, o + j * 2, none⟩ = some (.int .u64 xs[j].1) ∧ w'.cell? ⟨b, o + j * 2 + 1, none⟩ = some (.int .u64 xs[j].2) := by
  obtain ⟨b', o', he, _, h1, h2⟩ := h.pair_in hb hj
  cases he
  exact ⟨h1, h2⟩
theorem Z4u (A A' : Option Addr) (len cap len' cap' : Nat) (xs ys : List (Nat × Nat)) (w : World) (hlen : xs.length = len) (hlen' : ys.length = len') (hm : len ≤ 1000000) (hm' : len' ≤ 1000000) (hrow : Row w A 2 pairC xs) (hrow' : Row w A' 2 pairC ys) :
    Calls Try.prog 22 #[.slice A len cap, .slice A' len' cap'] w fun e w' => e = .returned (.bool (decide (xs = ys))) ∧ Ext w w' := by
  by_cases hl : len = len'
  · have d1 : ((len : Int) == (len' : Int)) = true := by simp [hl]
    have d2 : ((len : Int) != (len' : Int)) = false := by simp [hl]
    subst hl
    go_enter Try.func22, Try.ntmps22
    go_wp2_with fail
    go_loopw [5] (fun i wr => ∃ j : Nat, i = .int .i64 j ∧ j ≤ len ∧ Ext w wr ∧ Hid (xs.take j = ys.take j)) (fun i _ => len - (intOf i).toNat)
    case atStart => exact ⟨0, rfl, by omega, Ext.refl _, by simp [Hid]⟩
    case round =>
      obtain ⟨j, rfl, hj, hEx, HJ⟩ := hrel
      by_cases hlt : j < len
      · have hjx : j < xs.length := by omega
        have hjy : j < ys.length := by omega
        obtain ⟨b0, o0, rfl, hlt0, -, -⟩ := hrow.pair_in hEx hjx
        obtain ⟨b1, o1, rfl, hlt1, -, -⟩ := hrow'.pair_in hEx hjy
        have HQ := Lib.hid (fun (W : World) (h : Ext wr W) => And.intro (hrow.pair_at (hEx.trans h) hjx) (hrow'.pair_at (hEx.trans h) hjy))
        have HS := Lib.hid (show xs[j] = ys[j] → xs.take (j + 1) = ys.take (j + 1) from fun h => by rw [List.take_succ_eq_append_getElem hjx, List.take_succ_eq_append_getElem hjy, HJ.out, h])
        have HN := Lib.hid (show ¬ xs[j] = ys[j] → decide (xs = ys) = false from fun h => by rw [decide_eq_false_iff_not]; intro e; subst e; exact h rfl)
        generalize xs[j] = x at HQ HS HN
        generalize ys[j] = y at HQ HS HN
        obtain ⟨x0, x1⟩ := x
        obtain ⟨y0, y1⟩ := y
        have heq := fun W => eq_pair 9998 x0 x1 y0 y1 W
        have HEQ := Lib.hid heq
        clear heq
        go_upto_region 6 with fail
        refine Z0a (R := Ext) (w0 := wr) [[], [], [0, 1], [0, 1, 2], [], [], [4, 5], [4, 5, 6], [0, 1, 2, 3, 4, 5, 6, 7]] [17, 18, 19, 20, 21, 22, 23, 24, 25] Ext.refl (fun _ _ _ => Ext.trans) (Ext.drew _) (by kernel_rfl) ?_
        apply Build.det 17 Ext.refl (by rfl) (by rfl) rfl
        case h =>
          intro ax wx hE hR hF
          have e0 : ax.eval (.tmp 0) = .slice (some ⟨b0, o0, none⟩) len cap := hE.eval 0 (by rfl) rfl
          simp [go_sem, ↓IntWalk.iteOmega, ev e0, HEQ.out]
          with_reducible rfl
        apply Build.det 18 Ext.refl (by rfl) (by rfl) rfl
        case h =>
          intro ax wx hE hR hF
          have e5 : ax.eval (.tmp 5) = .int .i64 j := hE.eval 5 (by rfl) rfl
          simp [go_sem, ↓IntWalk.iteOmega, ev e5, HEQ.out]
          with_reducible rfl
        apply Build.det 19 Ext.refl (by rfl) (by rfl) rfl
        case h =>
          intro ax wx hE hR hF
          have e17 := hF 0 (det 17 _) (by decide) (.tail _ (.head _))
          have e18 := hF 1 (det 18 _) (by decide) (.head _)
          simp [go_sem, ↓IntWalk.iteOmega, ev e17, ev e18, HEQ.out]
          with_reducible rfl
        apply Build.det 20 Ext.refl (by rfl) (by rfl) rfl
        case h =>
          intro ax wx hE hR hF
          have e19 := hF 2 (det 19 _) (by decide) (.head _)
          have q0 := (HQ.out _ hR).1.1; have q1 := (HQ.out _ hR).1.2; have q2 := (HQ.out _ hR).2.1; have q3 := (HQ.out _ hR).2.2
          simp [go_sem, ↓IntWalk.iteOmega, ev e19, HEQ.out, q0, q1, q2, q3]
          with_reducible rfl
        apply Build.det 21 Ext.refl (by rfl) (by rfl) rfl
        case h =>
          intro ax wx hE hR hF
          have e1 : ax.eval (.tmp 1) = .slice (some ⟨b1, o1, none⟩) len cap' := hE.eval 1 (by rfl) rfl
          simp [go_sem, ↓IntWalk.iteOmega, ev e1, HEQ.out]
          with_reducible rfl
        apply Build.det 22 Ext.refl (by rfl) (by rfl) rfl
        case h =>
          intro ax wx hE hR hF
          have e5 : ax.eval (.tmp 5) = .int .i64 j := hE.eval 5 (by rfl) rfl
          simp [go_sem, ↓IntWalk.iteOmega, ev e5, HEQ.out]
          with_reducible rfl
        apply Build.det 23 Ext.refl (by rfl) (by rfl) rfl
        case h =>
          intro ax wx hE hR hF
          have e21 := hF 4 (det 21 _) (by decide) (.tail _ (.head _))
          have e22 := hF 5 (det 22 _) (by decide) (.head _)
          simp [go_sem, ↓IntWalk.iteOmega, ev e21, ev e22, HEQ.out]
          with_reducible rfl
        apply Build.det 24 Ext.refl (by rfl) (by rfl) rfl
        case h =>
          intro ax wx hE hR hF
          have e23 := hF 6 (det 23 _) (by decide) (.head _)
          have q0 := (HQ.out _ hR).1.1; have q1 := (HQ.out _ hR).1.2; have q2 := (HQ.out _ hR).2.1; have q3 := (HQ.out _ hR).2.2
          simp [go_sem, ↓IntWalk.iteOmega, ev e23, HEQ.out, q0, q1, q2, q3]
          with_reducible rfl
        apply Build.det 25 Ext.refl (by rfl) (by rfl) rfl
        case h =>
          intro ax wx hE hR hF
          have e20 := hF 3 (det 20 _) (by decide) (.tail _ (.tail _ (.tail _ (.tail _ (.head _)))))
          have e24 := hF 7 (det 24 _) (by decide) (.head _)
          simp [go_sem, ↓IntWalk.iteOmega, ev e20, ev e24, HEQ.out]
          with_reducible rfl
        apply Build.stop
        refine ⟨by kernel_rfl, .inl ⟨rfl, ?_⟩⟩
        intro ax w2 hE R2 hF
        have e17 := hF 0 (det 17 _) (.tail _ (.tail _ (.tail _ (.tail _ (.tail _ (.tail _ (.tail _ (.tail _ (.head _)))))))))
        have e18 := hF 1 (det 18 _) (.tail _ (.tail _ (.tail _ (.tail _ (.tail _ (.tail _ (.tail _ (.head _))))))))
        have e19 := hF 2 (det 19 _) (.tail _ (.tail _ (.tail _ (.tail _ (.tail _ (.tail _ (.head _)))))))
        have e20 := hF 3 (det 20 _) (.tail _ (.tail _ (.tail _ (.tail _ (.tail _ (.head _))))))
        have e21 := hF 4 (det 21 _) (.tail _ (.tail _ (.tail _ (.tail _ (.head _)))))
        have e22 := hF 5 (det 22 _) (.tail _ (.tail _ (.tail _ (.head _))))
        have e23 := hF 6 (det 23 _) (.tail _ (.tail _ (.head _)))
        have e24 := hF 7 (det 24 _) (.tail _ (.head _))
        have e25 := hF 8 (det 25 _) (.head _)
        rw [AllEq.frame (D := [17, 18, 19, 20, 21, 22, 23, 24, 25]) (AllEq.cons e17 (AllEq.cons e18 (AllEq.cons e19 (AllEq.cons e20 (AllEq.cons e21 (AllEq.cons e22 (AllEq.cons e23 (AllEq.cons e24 (AllEq.cons e25 (AllEq.nil)))))))))) hE rfl]
        clear hF hE e17 e18 e19 e20 e21 e22 e23 e24 e25
        simp only [List.foldl_cons, List.foldl_nil, Act.put, List.setIfInBounds_toArray, List.set_cons_succ, List.set_cons_zero]
        have hE2 := hEx.trans R2
        clear HEQ HQ
        by_cases hh : (x0, x1) = (y0, y1)
        · have h1 := (Prod.mk.inj hh).1
          have h2 := (Prod.mk.inj hh).2
          have HT := Lib.hid (HS.out hh)
          clear HN HS hh
          subst h1 h2
          simp only [beq_self_eq_true, Bool.not_true, Bool.or_self]
          go_wp2_with fail
          go_roundw
          case rel => exact ⟨j + 1, by go_num, by omega, hE2, HT.out⟩
          case measure => simp [intOf]; omega
        · have hB : (!((x0 : Int) == (y0 : Int)) || !((x1 : Int) == (y1 : Int))) = true := by
            rw [Bool.or_eq_true, Bool.not_eq_true', Bool.not_eq_true', beq_eq_false_iff_ne, beq_eq_false_iff_ne]
            by_cases h1 : x0 = y0
            · exact .inr (fun h2 => hh (by rw [h1, Int.ofNat.inj h2]))
            · exact .inl (fun h => h1 (Int.ofNat.inj h))
          have HT := Lib.hid (HN.out hh)
          rw [hB]
          clear HN HS hh hB
          go_wp2_with fail
          go_ret
          exact ⟨Z2n HT.out.symm, hE2⟩
      · have HA := Lib.hid (show decide (xs = ys) = true by
          have := HJ.out
          rw [List.take_of_length_le (by omega), List.take_of_length_le (by omega)] at this
          rw [decide_eq_true_iff]; exact this)
        go_wp2_with fail
        go_ret
        exact ⟨Z2n HA.out.symm, hEx⟩
  · have d1 : ((len : Int) == (len' : Int)) = false := by simp; omega
    have d2 : ((len : Int) != (len' : Int)) = true := by simp; omega
    have e : decide (xs = ys) = false := by rw [decide_eq_false_iff_not]; intro h; exact hl (by rw [← hlen, ← hlen', h])
    rw [e]
    clear e
    go_enter Try.func22, Try.ntmps22
    go_wp2_with fail
    go_ret
    exact ⟨rfl, Ext.refl _⟩
end Go.Proofs.Ytngehbhhpkkijaa

/- Trees in laws: what is got, rows compared. -/
namespace Go.Proofs.Ytngehbhhpkkijaa
set_option linter.unusedVariables false
set_option linter.unusedSimpArgs false
open Go.RowKit Go.Maps
section
variable {H : Nat} {A0 : World} {R : List Thing} {sb cap : Nat} {room : Int} {B : Option Addr} {vs : List Value} {N : List Nd} {root c : Nat} {P Q : List Pr}
end
end Go.Proofs.Ytngehbhhpkkijaa
