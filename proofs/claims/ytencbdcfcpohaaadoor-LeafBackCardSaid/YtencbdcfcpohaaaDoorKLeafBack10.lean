/- leaf's reference: Pairs. -/
import Derived.Test.YtencbdcfcpohaaaDoorKLeafBack09
import Derived.Laws.StructEq
namespace Go.Proofs.YtencbdcfcpohaaaDoor
set_option linter.unusedVariables false
set_option linter.unusedSimpArgs false
open Go.RowKit

theorem pair_fields : Tryd.prog.underlying 72 = some (.struct (Tryd.prog.fieldsOf 72)) := by kernel_rfl
theorem pair_held : Tryd.prog.stoodInHeld 72 = false := by kernel_rfl
theorem part_p0 (w : World) (x y : Value) : (part 31 #[x, y] 0).run Tryd.prog w = .ok x w := by kernel_rfl
theorem part_p1 (w : World) (x y : Value) : (part 31 #[x, y] 1).run Tryd.prog w = .ok y w := by kernel_rfl
theorem eq_pair (d : Nat) (a b a' b' : Int) (w : World) : (Op.equalIn (d + 2) 72 (.agg #[.int .u64 a, .int .u64 b]) (.agg #[.int .u64 a', .int .u64 b'])).run Tryd.prog w = .ok ((a == a') && (b == b')) w := by
  have h0 := fun W x y => run_equalIn_int (P := Tryd.prog) W d 31 .u64 .u64 x y Tryd.underlying31
  rw [run_equalIn_struct w (d + 1) _ _ _ pair_fields pair_held]
  have hf : (Tryd.prog.fieldsOf 72).toList.map (fun f => (f.name, f.type, f.offset)) = [("Key", 31, 0), ("Val", 31, 1)] := by kernel_rfl
  generalize (Tryd.prog.fieldsOf 72).toList = L at hf ⊢
  obtain ⟨f, g, rfl⟩ : ∃ f g, L = [f, g] := by
    rcases L with _ | ⟨f, _ | ⟨g, _ | ⟨h, L⟩⟩⟩
    · exact absurd (congrArg List.length hf) (by simp)
    · exact absurd (congrArg List.length hf) (by simp)
    · exact ⟨f, g, rfl⟩
    · exact absurd (congrArg List.length hf) (by simp)
  simp only [List.map_cons, List.map_nil, List.cons.injEq, Prod.mk.injEq, and_true] at hf
  obtain ⟨⟨n1, t1, o1⟩, n2, t2, o2⟩ := hf
  by_cases ha : a = a' <;> by_cases hb : b = b' <;> simp [Op.eqFields, n1, n2, t1, t2, o1, o2, Sem.run_bind, Sem.run_ite, part_p0, part_p1, h0, ha, hb]

theorem Row.pair_at {w w' : World} {b o : Nat} {xs : List (Nat × Nat)} (h : Row w (some ⟨b, o, none⟩) 2 pairC xs) (hb : Below w.heap.size w w') {j : Nat} (hj : j < xs.length) : w'.cell? ⟨b, o + j * 2, none⟩ = some (.int .u64 xs[j].1) ∧ w'.cell? ⟨b, o + j * 2 + 1, none⟩ = some (.int .u64 xs[j].2) := by
  obtain ⟨b', o', he, _, h1, h2⟩ := h.pair_in hb hj
  cases he
  exact ⟨h1, h2⟩
theorem pairs_any (A A' : Option Addr) (len cap len' cap' : Nat) (xs ys : List (Nat × Nat)) (w : World) (hlen : xs.length = len) (hlen' : ys.length = len') (hm : len ≤ 1000000) (hm' : len' ≤ 1000000) (hrow : Row w A 2 pairC xs) (hrow' : Row w A' 2 pairC ys) :
    Calls Tryd.prog 48 #[.slice A len cap, .slice A' len' cap'] w fun e w' => e = .returned (.bool (decide (xs = ys))) ∧ Ext w w' := by
  by_cases hl : len = len'
  · have d1 : ((len : Int) == (len' : Int)) = true := by simp [hl]
    have d2 : ((len : Int) != (len' : Int)) = false := by simp [hl]
    subst hl
    go_enter Tryd.func48, Tryd.ntmps48
    go_wp2_with fail
    go_loopw [5] (fun i wr => ∃ j : Nat, i = .int .i64 j ∧ j ≤ len ∧ Ext w wr ∧ Hid (xs.take j = ys.take j)) (fun i _ => len - (intOf i).toNat)
    case atStart => exact ⟨0, rfl, by omega, Ext.refl _, by simp [Hid]⟩
    case round =>
      obtain ⟨j, rfl, hj, hEx, HJ⟩ := hrel
      by_cases hlt : j < len
      · have hjx : j < xs.length := by omega
        have hjy : j < ys.length := by omega
        obtain ⟨b0, o0, rfl, hlt0, -, -⟩ := hrow.pair_in hEx hjx
        obtain ⟨b1, o1, rfl, hlt1, -, -⟩ := hrow'.pair_in hEx hjy
        have HQ := Lib.hid (fun (W : World) (h : Ext wr W) => And.intro (hrow.pair_at (hEx.trans h) hjx) (hrow'.pair_at (hEx.trans h) hjy))
        have HS := Lib.hid (show xs[j] = ys[j] → xs.take (j + 1) = ys.take (j + 1) from fun h => by rw [List.take_succ_eq_append_getElem hjx, List.take_succ_eq_append_getElem hjy, HJ.out, h])
        have HN := Lib.hid (show ¬ xs[j] = ys[j] → decide (xs = ys) = false from fun h => by rw [decide_eq_false_iff_not]; intro e; subst e; exact h rfl)
        generalize xs[j] = x at HQ HS HN
        generalize ys[j] = y at HQ HS HN
        obtain ⟨x0, x1⟩ := x
        obtain ⟨y0, y1⟩ := y
        have heq := fun W => eq_pair 9998 x0 x1 y0 y1 W
        have HEQ := Lib.hid heq
        clear heq
        go_upto_region 6 with fail
        refine wp_typed (R := Ext) (w0 := wr) [[], [], [0, 1], [0, 1, 2], [], [], [4, 5], [4, 5, 6], [0, 1, 2, 3, 4, 5, 6, 7]] [17, 18, 19, 20, 21, 22, 23, 24, 25] Ext.refl (fun _ _ _ => Ext.trans) (Ext.drew _) (by kernel_rfl) ?_
        apply Build.det 17 Ext.refl (by rfl) (by rfl) rfl
        case h =>   -- 0: t17 := Op.move (tmp 0)
          intro ax wx hE hR hF
          have e0 : ax.eval (.tmp 0) = .slice (some ⟨b0, o0, none⟩) len cap := hE.eval 0 (by rfl) rfl
          simp [go_sem, BigFrame.eval_const, BigFrame.eval_global, BigFrame.eval_func, ↓IntWalk.iteOmega, ev e0, HEQ.out]
          with_reducible rfl
        apply Build.det 18 Ext.refl (by rfl) (by rfl) rfl
        case h =>   -- 1: t18 := Op.move (tmp 5)
          intro ax wx hE hR hF
          have e5 : ax.eval (.tmp 5) = .int .i64 j := hE.eval 5 (by rfl) rfl
          simp [go_sem, BigFrame.eval_const, BigFrame.eval_global, BigFrame.eval_func, ↓IntWalk.iteOmega, ev e5, HEQ.out]
          with_reducible rfl
        apply Build.det 19 Ext.refl (by rfl) (by rfl) rfl
        case h =>   -- 2: t19 := Op.indexAddr 58 (tmp 17) (tmp 18)
          intro ax wx hE hR hF
          have e17 : ax.eval (.tmp 17) = _ := hF 0 (det 17 _) (by decide) (.tail _ (.head _))
          have e18 : ax.eval (.tmp 18) = _ := hF 1 (det 18 _) (by decide) (.head _)
          simp [go_sem, BigFrame.eval_const, BigFrame.eval_global, BigFrame.eval_func, ↓IntWalk.iteOmega, ev e17, ev e18, HEQ.out]
          with_reducible rfl
        apply Build.det 20 Ext.refl (by rfl) (by rfl) rfl
        case h =>   -- 3: t20 := Op.load 72 (tmp 19)
          intro ax wx hE hR hF
          have e19 : ax.eval (.tmp 19) = _ := hF 2 (det 19 _) (by decide) (.head _)
          have q0 := (HQ.out _ hR).1.1; have q1 := (HQ.out _ hR).1.2; have q2 := (HQ.out _ hR).2.1; have q3 := (HQ.out _ hR).2.2
          simp [go_sem, BigFrame.eval_const, BigFrame.eval_global, BigFrame.eval_func, ↓IntWalk.iteOmega, ev e19, HEQ.out, q0, q1, q2, q3]
          with_reducible rfl
        apply Build.det 21 Ext.refl (by rfl) (by rfl) rfl
        case h =>   -- 4: t21 := Op.move (tmp 1)
          intro ax wx hE hR hF
          have e1 : ax.eval (.tmp 1) = .slice (some ⟨b1, o1, none⟩) len cap' := hE.eval 1 (by rfl) rfl
          simp [go_sem, BigFrame.eval_const, BigFrame.eval_global, BigFrame.eval_func, ↓IntWalk.iteOmega, ev e1, HEQ.out]
          with_reducible rfl
        apply Build.det 22 Ext.refl (by rfl) (by rfl) rfl
        case h =>   -- 5: t22 := Op.move (tmp 5)
          intro ax wx hE hR hF
          have e5 : ax.eval (.tmp 5) = .int .i64 j := hE.eval 5 (by rfl) rfl
          simp [go_sem, BigFrame.eval_const, BigFrame.eval_global, BigFrame.eval_func, ↓IntWalk.iteOmega, ev e5, HEQ.out]
          with_reducible rfl
        apply Build.det 23 Ext.refl (by rfl) (by rfl) rfl
        case h =>   -- 6: t23 := Op.indexAddr 58 (tmp 21) (tmp 22)
          intro ax wx hE hR hF
          have e21 : ax.eval (.tmp 21) = _ := hF 4 (det 21 _) (by decide) (.tail _ (.head _))
          have e22 : ax.eval (.tmp 22) = _ := hF 5 (det 22 _) (by decide) (.head _)
          simp [go_sem, BigFrame.eval_const, BigFrame.eval_global, BigFrame.eval_func, ↓IntWalk.iteOmega, ev e21, ev e22, HEQ.out]
          with_reducible rfl
        apply Build.det 24 Ext.refl (by rfl) (by rfl) rfl
        case h =>   -- 7: t24 := Op.load 72 (tmp 23)
          intro ax wx hE hR hF
          have e23 : ax.eval (.tmp 23) = _ := hF 6 (det 23 _) (by decide) (.head _)
          have q0 := (HQ.out _ hR).1.1; have q1 := (HQ.out _ hR).1.2; have q2 := (HQ.out _ hR).2.1; have q3 := (HQ.out _ hR).2.2
          simp [go_sem, BigFrame.eval_const, BigFrame.eval_global, BigFrame.eval_func, ↓IntWalk.iteOmega, ev e23, HEQ.out, q0, q1, q2, q3]
          with_reducible rfl
        apply Build.det 25 Ext.refl (by rfl) (by rfl) rfl
        case h =>   -- 8: t25 := Op.binOp BinOp.neq 72 (tmp 20) (tmp 24) 72
          intro ax wx hE hR hF
          have e20 : ax.eval (.tmp 20) = _ := hF 3 (det 20 _) (by decide) (.tail _ (.tail _ (.tail _ (.tail _ (.head _)))))
          have e24 : ax.eval (.tmp 24) = _ := hF 7 (det 24 _) (by decide) (.head _)
          simp [go_sem, BigFrame.eval_const, BigFrame.eval_global, BigFrame.eval_func, ↓IntWalk.iteOmega, ev e20, ev e24, HEQ.out]
          with_reducible rfl
        apply Build.stop
        refine ⟨by kernel_rfl, .inl ⟨rfl, ?_⟩⟩
        intro ax w2 hE R2 hF
        have e17 : ax.eval (.tmp 17) = _ := hF 0 (det 17 _) (.tail _ (.tail _ (.tail _ (.tail _ (.tail _ (.tail _ (.tail _ (.tail _ (.head _)))))))))
        have e18 : ax.eval (.tmp 18) = _ := hF 1 (det 18 _) (.tail _ (.tail _ (.tail _ (.tail _ (.tail _ (.tail _ (.tail _ (.head _))))))))
        have e19 : ax.eval (.tmp 19) = _ := hF 2 (det 19 _) (.tail _ (.tail _ (.tail _ (.tail _ (.tail _ (.tail _ (.head _)))))))
        have e20 : ax.eval (.tmp 20) = _ := hF 3 (det 20 _) (.tail _ (.tail _ (.tail _ (.tail _ (.tail _ (.head _))))))
        have e21 : ax.eval (.tmp 21) = _ := hF 4 (det 21 _) (.tail _ (.tail _ (.tail _ (.tail _ (.head _)))))
        have e22 : ax.eval (.tmp 22) = _ := hF 5 (det 22 _) (.tail _ (.tail _ (.tail _ (.head _))))
        have e23 : ax.eval (.tmp 23) = _ := hF 6 (det 23 _) (.tail _ (.tail _ (.head _)))
        have e24 : ax.eval (.tmp 24) = _ := hF 7 (det 24 _) (.tail _ (.head _))
        have e25 : ax.eval (.tmp 25) = _ := hF 8 (det 25 _) (.head _)
        rw [AllEq.frame (D := [17, 18, 19, 20, 21, 22, 23, 24, 25]) (AllEq.cons e17 (AllEq.cons e18 (AllEq.cons e19 (AllEq.cons e20 (AllEq.cons e21 (AllEq.cons e22 (AllEq.cons e23 (AllEq.cons e24 (AllEq.cons e25 (AllEq.nil)))))))))) hE rfl]
        clear hF hE e17 e18 e19 e20 e21 e22 e23 e24 e25
        simp only [List.foldl_cons, List.foldl_nil, Act.put, List.setIfInBounds_toArray, List.set_cons_succ, List.set_cons_zero]
        have hE2 := hEx.trans R2
        clear HEQ HQ
        by_cases hh : (x0, x1) = (y0, y1)
        · have h1 := (Prod.mk.inj hh).1
          have h2 := (Prod.mk.inj hh).2
          have HT := Lib.hid (HS.out hh)
          clear HN HS hh
          subst h1 h2
          simp only [beq_self_eq_true, Bool.not_true, Bool.or_self]
          go_wp2_with fail
          go_roundw
          case rel => exact ⟨j + 1, by go_num, by omega, hE2, HT.out⟩
          case measure => simp [intOf]; omega
        · have hB : (!((x0 : Int) == (y0 : Int)) || !((x1 : Int) == (y1 : Int))) = true := by
            rw [Bool.or_eq_true, Bool.not_eq_true', Bool.not_eq_true', beq_eq_false_iff_ne, beq_eq_false_iff_ne]
            by_cases h1 : x0 = y0
            · exact .inr (fun h2 => hh (by rw [h1, Int.ofNat.inj h2]))
            · exact .inl (fun h => h1 (Int.ofNat.inj h))
          have HT := Lib.hid (HN.out hh)
          rw [hB]
          clear HN HS hh hB
          go_wp2_with fail
          go_ret
          exact ⟨ret_bool HT.out.symm, hE2⟩
      · have HA := Lib.hid (show decide (xs = ys) = true by
          have := HJ.out
          rw [List.take_of_length_le (by omega), List.take_of_length_le (by omega)] at this
          rw [decide_eq_true_iff]; exact this)
        go_wp2_with fail
        go_ret
        exact ⟨ret_bool HA.out.symm, hEx⟩
  · have d1 : ((len : Int) == (len' : Int)) = false := by simp; omega
    have d2 : ((len : Int) != (len' : Int)) = true := by simp; omega
    have e : decide (xs = ys) = false := by rw [decide_eq_false_iff_not]; intro h; exact hl (by rw [← hlen, ← hlen', h])
    rw [e]
    clear e
    go_enter Tryd.func48, Tryd.ntmps48
    go_wp2_with fail
    go_ret
    exact ⟨rfl, Ext.refl _⟩
end Go.Proofs.YtencbdcfcpohaaaDoor

/- leaf's reference: Same. -/
namespace Go.Proofs.YtencbdcfcpohaaaDoor
set_option linter.unusedVariables false
set_option linter.unusedSimpArgs false
open Go.RowKit

theorem same_any (lv lv' : Int) (A A' : Option Addr) (len cap len' cap' : Nat) (xs ys : List (Nat × Nat)) (w : World) (hlen : xs.length = len) (hlen' : ys.length = len') (hm : len ≤ 1000000) (hm' : len' ≤ 1000000) (hrow : Row w A 2 pairC xs) (hrow' : Row w A' 2 pairC ys) :
    Calls Tryd.prog 32 #[.agg #[.int .i64 lv, .slice A len cap], .agg #[.int .i64 lv', .slice A' len' cap']] w fun e w' => e = .returned (.bool (decide (lv = lv' ∧ xs = ys))) ∧ Ext w w' := by
  have hE := (Ext.alloc w (.cells #[.int .i64 lv, .slice A len cap] 60)).trans (Ext.alloc _ (.cells #[.int .i64 lv', .slice A' len' cap'] 60))
  have HC := Lib.hid (pairs_any A A' len cap len' cap' xs ys _ hlen hlen' hm hm' (hrow.ext hE) (hrow'.ext hE))
  have HE := Lib.hid hE
  by_cases hl : lv = lv'
  · have e : decide (lv = lv' ∧ xs = ys) = decide (xs = ys) := by simp [hl]
    rw [e]
    generalize decide (xs = ys) = B at HC ⊢
    subst hl
    clear hE e hrow hrow'
    go_enter Tryd.func32, Tryd.ntmps32
    go_wp2_with fail
    refine HC.out.mono ?_
    rintro e w2 ⟨rfl, R2⟩
    have HR := Lib.hid (HE.out.trans R2)
    clear R2 HC
    go_wp2_with fail
    go_ret
    exact ⟨rfl, HR.out⟩
  · have e : decide (lv = lv' ∧ xs = ys) = false := by rw [decide_eq_false_iff_not]; exact fun h => hl h.1
    have d1 : (lv == lv') = false := by simpa using hl
    rw [e]
    clear hE e hrow hrow' HC
    go_enter Tryd.func32, Tryd.ntmps32
    go_wp2_with fail
    go_ret
    exact ⟨rfl, HE.out⟩
end Go.Proofs.YtencbdcfcpohaaaDoor

/- leaf: a key's place; plain. -/
namespace Go.Proofs.YtencbdcfcpohaaaDoor
set_option linter.unusedVariables false
set_option linter.unusedSimpArgs false
open Go.RowKit

theorem place_of (xs : List (Nat × Nat)) (key : Nat) (h : riseB xs = true) : ∃ n, Place xs key n := by
  unfold riseB at h
  rw [decide_eq_true_iff] at h
  have hj : ∀ j, j ≤ xs.length → ∃ n, n ≤ j ∧ (∀ i, i < n → keyAt xs i < key) ∧ (∀ i, n ≤ i → i < j → key ≤ keyAt xs i) := by
    intro j
    induction j with
    | zero => exact fun _ => ⟨0, Nat.le_refl _, fun i hi => absurd hi (by omega), fun i _ hi => absurd hi (by omega)⟩
    | succ j ih =>
      intro hl
      obtain ⟨n, h1, h2, h3⟩ := ih (by omega)
      by_cases hn : n = j
      · subst hn
        by_cases hk : keyAt xs n < key
        · refine ⟨n + 1, Nat.le_refl _, fun i hi => ?_, fun i h4 h5 => absurd h5 (by omega)⟩
          by_cases e : i = n
          · subst e; exact hk
          · exact h2 i (by omega)
        · refine ⟨n, by omega, h2, fun i h4 h5 => ?_⟩
          obtain rfl : i = n := by omega
          omega
      · refine ⟨n, by omega, h2, fun i h4 h5 => ?_⟩
        by_cases e : i = j
        · subst e
          have := h (i - 1) (by omega) (by omega)
          rw [show i - 1 + 1 = i by omega] at this
          have := h3 (i - 1) (by omega) (by omega)
          omega
        · exact h3 i h4 (by omega)
  obtain ⟨n, h1, h2, h3⟩ := hj xs.length (Nat.le_refl _)
  exact ⟨n, h1, h2, h3⟩
end Go.Proofs.YtencbdcfcpohaaaDoor

/- leaf: a node's bytes; plain. -/
namespace Go.Proofs.YtencbdcfcpohaaaDoor
set_option linter.unusedVariables false
set_option linter.unusedSimpArgs false
open Go.RowKit

/-- The bytes of a row of pairs. -/
def pairsL : List (Nat × Nat) → List UInt8
  | [] => []
  | x :: xs => le x.1 8 ++ (le x.2 8 ++ pairsL xs)
theorem pairsL_length (xs : List (Nat × Nat)) : (pairsL xs).length = 16 * xs.length := by
  induction xs with
  | nil => rfl
  | cons x xs ih => simp [pairsL, le_length, ih]; omega
theorem pairsL_snoc (xs : List (Nat × Nat)) (x : Nat × Nat) : pairsL (xs ++ [x]) = pairsL xs ++ le x.1 8 ++ le x.2 8 := by
  induction xs with
  | nil => simp [pairsL]
  | cons y xs ih => simp [pairsL, ih]
theorem pairsL_take (xs : List (Nat × Nat)) {j : Nat} (hj : j < xs.length) : pairsL (xs.take (j + 1)) = pairsL (xs.take j) ++ le xs[j].1 8 ++ le xs[j].2 8 := by
  rw [List.take_add_one, List.getElem?_eq_getElem hj]
  exact pairsL_snoc _ _
/-- A node's first four bytes. -/
def hdL (lv n : Nat) : List UInt8 := [] ++ le 76 1 ++ le lv 1 ++ le n 1 ++ le 0 1
theorem hdL_length (lv n : Nat) : (hdL lv n).length = 4 := by simp [hdL, le_length]
/-- A node's bytes ahead of their sum. -/
def leafL (lv : Nat) (xs : List (Nat × Nat)) : List UInt8 := fillL (hdL lv xs.length ++ pairsL xs) 252
theorem leafL_eq (lv : Nat) (xs : List (Nat × Nat)) : leafL lv xs = hdL lv xs.length ++ pairsL xs ++ List.replicate (248 - 16 * xs.length) 0 := by
  have h : ((252 : Int) - ((4 + 16 * xs.length : Nat) : Int)).toNat = 248 - 16 * xs.length := by omega
  unfold leafL fillL
  rw [List.length_append, hdL_length, pairsL_length, h]
theorem leafL_length (lv : Nat) (xs : List (Nat × Nat)) (h : xs.length ≤ 15) : (leafL lv xs).length = 252 := by
  rw [leafL_eq]
  simp only [List.length_append, hdL_length, pairsL_length, List.length_replicate]
  omega
theorem sealed_length (lv : Nat) (xs : List (Nat × Nat)) (h : xs.length ≤ 15) : (sealL (leafL lv xs)).length = 256 := by rw [sealL_length, leafL_length lv xs h]
/-- The pair at a place of a page. -/
def pairAt (l : List UInt8) (i : Nat) : Nat × Nat := (numL ((l.drop (4 + 16 * i)).take 8), numL ((l.drop (12 + 16 * i)).take 8))
def pairsAt (l : List UInt8) (n : Nat) : List (Nat × Nat) := (List.range n).map (pairAt l)
theorem pairsAt_length (l : List UInt8) (n : Nat) : (pairsAt l n).length = n := by simp [pairsAt]
theorem pairsAt_succ (l : List UInt8) (n : Nat) : pairsAt l (n + 1) = pairsAt l n ++ [pairAt l n] := by simp [pairsAt, List.range_succ]
theorem pairAt_lt (l : List UInt8) (i : Nat) : (pairAt l i).1 < 18446744073709551616 ∧ (pairAt l i).2 < 18446744073709551616 := by
  have h : ∀ m : List UInt8, numL (m.take 8) < 18446744073709551616 := fun m => by
    have h1 := numL_lt (m.take 8)
    have h2 : 256 ^ (m.take 8).length ≤ 256 ^ 8 := Nat.pow_le_pow_right (by decide) (by simp; omega)
    have h3 : (256 : Nat) ^ 8 = 18446744073709551616 := by decide
    omega
  exact ⟨h _, h _⟩
theorem pairsAt_lt (l : List UInt8) (n : Nat) : ∀ x ∈ pairsAt l n, x.1 < 18446744073709551616 ∧ x.2 < 18446744073709551616 := by
  intro x hx
  simp only [pairsAt, List.mem_map] at hx
  obtain ⟨i, -, rfl⟩ := hx
  exact pairAt_lt l i
def lvAt (l : List UInt8) : Nat := (l.getD 1 0).toNat
def cntAt (l : List UInt8) : Nat := min (l.getD 2 0).toNat 15
theorem cntAt_le (l : List UInt8) : cntAt l ≤ 15 := Nat.min_le_right _ _
/-- Whether a page is a node's. -/
def readB (l : List UInt8) : Bool :=
  decide (l.length = 256) && (goodB (lvAt l : Nat) (pairsAt l (cntAt l)) && decide (sealL (leafL (lvAt l) (pairsAt l (cntAt l))) = l))

/-- The bytes of pairs are those that the pairs were read from. -/
theorem pairs_read (l : List UInt8) (n : Nat) (h : 4 + 16 * n ≤ l.length) : pairsL (pairsAt l n) = (l.drop 4).take (16 * n) := by
  induction n with
  | zero => simp [pairsAt, pairsL]
  | succ n ih =>
    rw [pairsAt_succ, pairsL_snoc, ih (by omega)]
    have e1 : le (pairAt l n).1 8 = (l.drop (4 + 16 * n)).take 8 := by
      have := le_numL ((l.drop (4 + 16 * n)).take 8)
      rwa [show ((l.drop (4 + 16 * n)).take 8).length = 8 by simp; omega] at this
    have e2 : le (pairAt l n).2 8 = (l.drop (12 + 16 * n)).take 8 := by
      have := le_numL ((l.drop (12 + 16 * n)).take 8)
      rwa [show ((l.drop (12 + 16 * n)).take 8).length = 8 by simp; omega] at this
    rw [e1, e2, show 16 * (n + 1) = 16 * n + 8 + 8 by omega, List.take_add, List.take_add, List.drop_drop, List.drop_drop]
    rw [show 4 + (16 * n + 8) = 12 + 16 * n by omega]

theorem take4 (l : List UInt8) (h : 4 ≤ l.length) : l.take 4 = [l.getD 0 0, l.getD 1 0, l.getD 2 0, l.getD 3 0] := by
  match l, h with
  | a :: b :: c :: d :: r, _ => rfl
theorem le1 (x : UInt8) : le x.toNat 1 = [x] := by
  apply List.ext_getElem (by simp [le_length])
  intro i h1 h2
  obtain rfl : i = 0 := by simp at h2; omega
  simp [le]

/-- What the code asks of a page that opens, is that it is its node's page. -/
theorem page_is (l : List UInt8) (hl : l.length = 256) (ho : sealL (l.take 252) = l) :
    readB l = (decide (l.getD 0 0 = 76 ∧ l.getD 3 0 = 0 ∧ (l.getD 2 0).toNat ≤ 15) && (((l.take 252).drop (4 + 16 * cntAt l)).all (· == 0) && goodB (lvAt l : Nat) (pairsAt l (cntAt l)))) := by
  unfold readB
  rw [decide_eq_true hl, Bool.true_and, Bool.and_comm (goodB _ _), ← Bool.and_assoc]
  congr 1
  rw [Bool.eq_iff_iff, Bool.and_eq_true, decide_eq_true_iff, decide_eq_true_iff, List.all_eq_true]
  have hn := cntAt_le l
  have hpl : (pairsAt l (cntAt l)).length = cntAt l := pairsAt_length _ _
  have hpr := pairs_read l (cntAt l) (by omega)
  have hlv : lvAt l = (l.getD 1 0).toNat := rfl
  have hcn : cntAt l = min (l.getD 2 0).toNat 15 := rfl
  have hlen := leafL_length (lvAt l) (pairsAt l (cntAt l)) (by omega)
  have hT : sealL (leafL (lvAt l) (pairsAt l (cntAt l))) = l ↔ leafL (lvAt l) (pairsAt l (cntAt l)) = l.take 252 := by
    constructor
    · intro h
      have := congrArg (List.take 252) h
      rw [← this]
      unfold sealL
      rw [List.take_left' hlen]
    · intro h; rw [h, ho]
  have hsplit : l.take 252 = l.take 4 ++ ((l.drop 4).take (16 * cntAt l) ++ (l.take 252).drop (4 + 16 * cntAt l)) := by
    have e1 : (l.drop 4).take (16 * cntAt l) = ((l.take 252).drop 4).take (16 * cntAt l) := by
      rw [List.drop_take, List.take_take, Nat.min_eq_left (by omega)]
    have e2 : l.take 4 = (l.take 252).take 4 := by rw [List.take_take]; rfl
    have e3 : (l.take 252).drop (4 + 16 * cntAt l) = ((l.take 252).drop 4).drop (16 * cntAt l) := by rw [List.drop_drop]
    rw [e1, e2, e3, List.take_append_drop, List.take_append_drop]
  have hzl : ((l.take 252).drop (4 + 16 * cntAt l)).length = 248 - 16 * cntAt l := by simp; omega
  obtain ⟨Z, hZ⟩ : ∃ Z, (l.take 252).drop (4 + 16 * cntAt l) = Z := ⟨_, rfl⟩
  rw [hZ] at hsplit hzl ⊢
  rw [hT, leafL_eq, hpl, hpr, hsplit, take4 l (by omega), List.append_assoc]
  clear hZ hsplit hT hlen
  generalize cntAt l = n at hn hcn hzl
  rw [hlv]
  have hh : hdL (l.getD 1 0).toNat n = [76, l.getD 1 0, UInt8.ofNat n, 0] := by
    unfold hdL
    rw [le1]
    simp [le]
  rw [hh]
  constructor
  · intro h
    have h1 := (List.append_inj h (by simp)).1
    have h2 := (List.append_inj (List.append_inj h (by simp)).2 rfl).2
    simp only [List.cons.injEq, true_and, and_true] at h1
    obtain ⟨ha, hb, hc⟩ := h1
    refine ⟨⟨ha.symm, hc.symm, ?_⟩, ?_⟩
    · rw [← hb]
      have : (UInt8.ofNat n).toNat = n := by simp; omega
      omega
    · rw [← h2]
      intro x hx
      rw [(List.mem_replicate.1 hx).2]; rfl
  · rintro ⟨⟨ha, hc, hb⟩, hz⟩
    have hnn : n = (l.getD 2 0).toNat := by omega
    rw [ha, hc, hnn]
    have : UInt8.ofNat (l.getD 2 0).toNat = l.getD 2 0 := by simp
    rw [this]
    congr 2
    symm
    rw [List.eq_replicate_iff]
    exact ⟨by rw [hzl, hnn], fun x hx => by simpa using hz x hx⟩
/-- A page that does not open is no node's. -/
theorem page_shut (l : List UInt8) (h : ¬ (l.length = 256 ∧ sealL (l.take 252) = l)) : readB l = false := by
  unfold readB
  by_cases hl : l.length = 256
  · have hs : ¬ sealL (l.take 252) = l := fun e => h ⟨hl, e⟩
    have : ¬ sealL (leafL (lvAt l) (pairsAt l (cntAt l))) = l := by
      intro e
      apply hs
      have hlen := leafL_length (lvAt l) (pairsAt l (cntAt l)) (by rw [pairsAt_length]; exact cntAt_le l)
      have := congrArg (List.take 252) e
      rw [← this]
      conv => rhs; rw [← e]
      unfold sealL
      rw [List.take_left' hlen]
    rw [decide_eq_false this, Bool.and_false, Bool.and_false]
  · rw [decide_eq_false hl, Bool.false_and]
end Go.Proofs.YtencbdcfcpohaaaDoor
