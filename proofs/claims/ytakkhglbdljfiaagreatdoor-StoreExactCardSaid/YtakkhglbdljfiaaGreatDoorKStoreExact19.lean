/- leaf's reference: Pairs. -/
import Derived.Test.YtakkhglbdljfiaaGreatDoorKStoreExact08
import Derived.Laws.StructEq
import Derived.Test.YtakkhglbdljfiaaGreatDoorKStoreExact01
import Derived.Test.YtakkhglbdljfiaaGreatDoorKStoreExact02
import Derived.Test.YtakkhglbdljfiaaGreatDoorKStoreExact18
namespace Go.Proofs.YtakkhglbdljfiaaGreatDoor
attribute [local simp] BigFrame.eval_const BigFrame.eval_global BigFrame.eval_func
set_option linter.unusedVariables false
set_option linter.unusedSimpArgs false
open Go.RowKit

theorem pair_fields : Tryz.prog.underlying 98 = some (.struct (Tryz.prog.fieldsOf 98)) := by kernel_rfl
theorem pair_held : Tryz.prog.stoodInHeld 98 = false := by kernel_rfl
theorem part_p0 (w : World) (x y : Value) : (part 37 #[x, y] 0).run Tryz.prog w = .ok x w := by kernel_rfl
theorem part_p1 (w : World) (x y : Value) : (part 37 #[x, y] 1).run Tryz.prog w = .ok y w := by kernel_rfl
theorem eq_pair (d : Nat) (a b a' b' : Int) (w : World) : (Op.equalIn (d + 2) 98 (.agg #[.int .u64 a, .int .u64 b]) (.agg #[.int .u64 a', .int .u64 b'])).run Tryz.prog w = .ok ((a == a') && (b == b')) w := by
  have h0 := fun W x y => run_equalIn_int (P := Tryz.prog) W d 37 .u64 .u64 x y Tryz.underlying37
  rw [run_equalIn_struct w (d + 1) _ _ _ pair_fields pair_held]
  have hf : (Tryz.prog.fieldsOf 98).toList.map (fun f => (f.name, f.type, f.offset)) = [("Key", 37, 0), ("Val", 37, 1)] := by kernel_rfl
  generalize (Tryz.prog.fieldsOf 98).toList = L at hf ⊢
  obtain ⟨f, g, rfl⟩ : ∃ f g, L = [f, g] := by
    rcases L with _ | ⟨f, _ | ⟨g, _ | ⟨h, L⟩⟩⟩
    · exact absurd (congrArg List.length hf) (by simp)
    · exact absurd (congrArg List.length hf) (by simp)
    · exact ⟨f, g, rfl⟩
    · exact absurd (congrArg List.length hf) (by simp)
  simp only [List.map_cons, List.map_nil, List.cons.injEq, Prod.mk.injEq, and_true] at hf
  obtain ⟨⟨n1, t1, o1⟩, n2, t2, o2⟩ := hf
  by_cases ha : a = a' <;> by_cases hb : b = b' <;> simp [Op.eqFields, n1, n2, t1, t2, o1, o2, Sem.run_bind, Sem.run_ite, part_p0, part_p1, h0, ha, hb]

theorem Row.pair_at {w w' : World} {b o : Nat} {xs : List (Nat × Nat)} (h : Row w (some ⟨b, o, none⟩) 2 pairC xs) (hb : Below w.heap.size w w') {j : Nat} (hj : j < xs.length) : w'.cell? ⟨b, o + j * 2, none⟩ = some (.int .u64 xs[j].1) ∧ w'.cell? ⟨b, o + j * 2 + 1, none⟩ = some (.int .u64 xs[j].2) := by
  obtain ⟨b', o', he, _, h1, h2⟩ := h.pair_in hb hj
  cases he
  exact ⟨h1, h2⟩
theorem pairs_any (A A' : Option Addr) (len cap len' cap' : Nat) (xs ys : List (Nat × Nat)) (w : World) (hlen : xs.length = len) (hlen' : ys.length = len') (hm : len ≤ 1000000) (hm' : len' ≤ 1000000) (hrow : Row w A 2 pairC xs) (hrow' : Row w A' 2 pairC ys) :
    Calls Tryz.prog 62 #[.slice A len cap, .slice A' len' cap'] w fun e w' => e = .returned (.bool (decide (xs = ys))) ∧ Ext w w' := by
  by_cases hl : len = len'
  · have d1 : ((len : Int) == (len' : Int)) = true := by simp [hl]
    have d2 : ((len : Int) != (len' : Int)) = false := by simp [hl]
    subst hl
    go_enter Tryz.func62, Tryz.ntmps62
    go_wp2_with fail
    go_loopw [5] (fun i wr => ∃ j : Nat, i = .int .i64 j ∧ j ≤ len ∧ Ext w wr ∧ Hid (xs.take j = ys.take j)) (fun i _ => len - (intOf i).toNat)
    case atStart => exact ⟨0, rfl, by omega, Ext.refl _, by simp [Hid]⟩
    case round =>
      obtain ⟨j, rfl, hj, hEx, HJ⟩ := hrel
      by_cases hlt : j < len
      · have hjx : j < xs.length := by omega
        have hjy : j < ys.length := by omega
        obtain ⟨b0, o0, rfl, hlt0, -, -⟩ := hrow.pair_in hEx hjx
        obtain ⟨b1, o1, rfl, hlt1, -, -⟩ := hrow'.pair_in hEx hjy
        have HQ := Lib.hid (fun (W : World) (h : Ext wr W) => And.intro (hrow.pair_at (hEx.trans h) hjx) (hrow'.pair_at (hEx.trans h) hjy))
        have HS := Lib.hid (show xs[j] = ys[j] → xs.take (j + 1) = ys.take (j + 1) from fun h => by rw [List.take_succ_eq_append_getElem hjx, List.take_succ_eq_append_getElem hjy, HJ.out, h])
        have HN := Lib.hid (show ¬ xs[j] = ys[j] → decide (xs = ys) = false from fun h => by rw [decide_eq_false_iff_not]; intro e; subst e; exact h rfl)
        generalize xs[j] = x at HQ HS HN
        generalize ys[j] = y at HQ HS HN
        obtain ⟨x0, x1⟩ := x
        obtain ⟨y0, y1⟩ := y
        have heq := fun W => eq_pair 9998 x0 x1 y0 y1 W
        have HEQ := Lib.hid heq
        clear heq
        go_upto_region 6 with fail
        refine Z0l (R := Ext) (w0 := wr) [[], [], [0, 1], [0, 1, 2], [], [], [4, 5], [4, 5, 6], [0, 1, 2, 3, 4, 5, 6, 7]] [17, 18, 19, 20, 21, 22, 23, 24, 25] Ext.refl (fun _ _ _ => Ext.trans) (Ext.drew _) (by kernel_rfl) ?_
        apply Build.det 17 Ext.refl (by rfl) (by rfl) rfl
        case h =>
          intro ax wx hE hR hF
          have e0 : ax.eval (.tmp 0) = .slice (some ⟨b0, o0, none⟩) len cap := hE.eval 0 (by rfl) rfl
          simp [go_sem, ↓IntWalk.iteOmega, ev e0, HEQ.out]
          with_reducible rfl
        apply Build.det 18 Ext.refl (by rfl) (by rfl) rfl
        case h =>
          intro ax wx hE hR hF
          have e5 : ax.eval (.tmp 5) = .int .i64 j := hE.eval 5 (by rfl) rfl
          simp [go_sem, ↓IntWalk.iteOmega, ev e5, HEQ.out]
          with_reducible rfl
        apply Build.det 19 Ext.refl (by rfl) (by rfl) rfl
        case h =>
          intro ax wx hE hR hF
          have e17 := hF 0 (det 17 _) (by decide) (.tail _ (.head _))
          have e18 := hF 1 (det 18 _) (by decide) (.head _)
          simp [go_sem, ↓IntWalk.iteOmega, ev e17, ev e18, HEQ.out]
          with_reducible rfl
        apply Build.det 20 Ext.refl (by rfl) (by rfl) rfl
        case h =>
          intro ax wx hE hR hF
          have e19 := hF 2 (det 19 _) (by decide) (.head _)
          have q0 := (HQ.out _ hR).1.1; have q1 := (HQ.out _ hR).1.2; have q2 := (HQ.out _ hR).2.1; have q3 := (HQ.out _ hR).2.2
          simp [go_sem, ↓IntWalk.iteOmega, ev e19, HEQ.out, q0, q1, q2, q3]
          with_reducible rfl
        apply Build.det 21 Ext.refl (by rfl) (by rfl) rfl
        case h =>
          intro ax wx hE hR hF
          have e1 : ax.eval (.tmp 1) = .slice (some ⟨b1, o1, none⟩) len cap' := hE.eval 1 (by rfl) rfl
          simp [go_sem, ↓IntWalk.iteOmega, ev e1, HEQ.out]
          with_reducible rfl
        apply Build.det 22 Ext.refl (by rfl) (by rfl) rfl
        case h =>
          intro ax wx hE hR hF
          have e5 : ax.eval (.tmp 5) = .int .i64 j := hE.eval 5 (by rfl) rfl
          simp [go_sem, ↓IntWalk.iteOmega, ev e5, HEQ.out]
          with_reducible rfl
        apply Build.det 23 Ext.refl (by rfl) (by rfl) rfl
        case h =>
          intro ax wx hE hR hF
          have e21 := hF 4 (det 21 _) (by decide) (.tail _ (.head _))
          have e22 := hF 5 (det 22 _) (by decide) (.head _)
          simp [go_sem, ↓IntWalk.iteOmega, ev e21, ev e22, HEQ.out]
          with_reducible rfl
        apply Build.det 24 Ext.refl (by rfl) (by rfl) rfl
        case h =>
          intro ax wx hE hR hF
          have e23 := hF 6 (det 23 _) (by decide) (.head _)
          have q0 := (HQ.out _ hR).1.1; have q1 := (HQ.out _ hR).1.2; have q2 := (HQ.out _ hR).2.1; have q3 := (HQ.out _ hR).2.2
          simp [go_sem, ↓IntWalk.iteOmega, ev e23, HEQ.out, q0, q1, q2, q3]
          with_reducible rfl
        apply Build.det 25 Ext.refl (by rfl) (by rfl) rfl
        case h =>
          intro ax wx hE hR hF
          have e20 := hF 3 (det 20 _) (by decide) (.tail _ (.tail _ (.tail _ (.tail _ (.head _)))))
          have e24 := hF 7 (det 24 _) (by decide) (.head _)
          simp [go_sem, ↓IntWalk.iteOmega, ev e20, ev e24, HEQ.out]
          with_reducible rfl
        apply Build.stop
        refine ⟨by kernel_rfl, .inl ⟨rfl, ?_⟩⟩
        intro ax w2 hE R2 hF
        have e17 := hF 0 (det 17 _) (.tail _ (.tail _ (.tail _ (.tail _ (.tail _ (.tail _ (.tail _ (.tail _ (.head _)))))))))
        have e18 := hF 1 (det 18 _) (.tail _ (.tail _ (.tail _ (.tail _ (.tail _ (.tail _ (.tail _ (.head _))))))))
        have e19 := hF 2 (det 19 _) (.tail _ (.tail _ (.tail _ (.tail _ (.tail _ (.tail _ (.head _)))))))
        have e20 := hF 3 (det 20 _) (.tail _ (.tail _ (.tail _ (.tail _ (.tail _ (.head _))))))
        have e21 := hF 4 (det 21 _) (.tail _ (.tail _ (.tail _ (.tail _ (.head _)))))
        have e22 := hF 5 (det 22 _) (.tail _ (.tail _ (.tail _ (.head _))))
        have e23 := hF 6 (det 23 _) (.tail _ (.tail _ (.head _)))
        have e24 := hF 7 (det 24 _) (.tail _ (.head _))
        have e25 := hF 8 (det 25 _) (.head _)
        rw [AllEq.frame (D := [17, 18, 19, 20, 21, 22, 23, 24, 25]) (AllEq.cons e17 (AllEq.cons e18 (AllEq.cons e19 (AllEq.cons e20 (AllEq.cons e21 (AllEq.cons e22 (AllEq.cons e23 (AllEq.cons e24 (AllEq.cons e25 (AllEq.nil)))))))))) hE rfl]
        clear hF hE e17 e18 e19 e20 e21 e22 e23 e24 e25
        simp only [List.foldl_cons, List.foldl_nil, Act.put, List.setIfInBounds_toArray, List.set_cons_succ, List.set_cons_zero]
        have hE2 := hEx.trans R2
        clear HEQ HQ
        by_cases hh : (x0, x1) = (y0, y1)
        · have h1 := (Prod.mk.inj hh).1
          have h2 := (Prod.mk.inj hh).2
          have HT := Lib.hid (HS.out hh)
          clear HN HS hh
          subst h1 h2
          simp only [beq_self_eq_true, Bool.not_true, Bool.or_self]
          go_wp2_with fail
          go_roundw
          case rel => exact ⟨j + 1, by go_num, by omega, hE2, HT.out⟩
          case measure => simp [intOf]; omega
        · have hB : (!((x0 : Int) == (y0 : Int)) || !((x1 : Int) == (y1 : Int))) = true := by
            rw [Bool.or_eq_true, Bool.not_eq_true', Bool.not_eq_true', beq_eq_false_iff_ne, beq_eq_false_iff_ne]
            by_cases h1 : x0 = y0
            · exact .inr (fun h2 => hh (by rw [h1, Int.ofNat.inj h2]))
            · exact .inl (fun h => h1 (Int.ofNat.inj h))
          have HT := Lib.hid (HN.out hh)
          rw [hB]
          clear HN HS hh hB
          go_wp2_with fail
          go_ret
          exact ⟨Z13 HT.out.symm, hE2⟩
      · have HA := Lib.hid (show decide (xs = ys) = true by
          have := HJ.out
          rw [List.take_of_length_le (by omega), List.take_of_length_le (by omega)] at this
          rw [decide_eq_true_iff]; exact this)
        go_wp2_with fail
        go_ret
        exact ⟨Z13 HA.out.symm, hEx⟩
  · have d1 : ((len : Int) == (len' : Int)) = false := by simp; omega
    have d2 : ((len : Int) != (len' : Int)) = true := by simp; omega
    have e : decide (xs = ys) = false := by rw [decide_eq_false_iff_not]; intro h; exact hl (by rw [← hlen, ← hlen', h])
    rw [e]
    clear e
    go_enter Tryz.func62, Tryz.ntmps62
    go_wp2_with fail
    go_ret
    exact ⟨rfl, Ext.refl _⟩
end Go.Proofs.YtakkhglbdljfiaaGreatDoor

/- leaf's reference: Same. -/
namespace Go.Proofs.YtakkhglbdljfiaaGreatDoor
set_option linter.unusedVariables false
set_option linter.unusedSimpArgs false
open Go.RowKit

theorem same_any (lv lv' : Int) (A A' : Option Addr) (len cap len' cap' : Nat) (xs ys : List (Nat × Nat)) (w : World) (hlen : xs.length = len) (hlen' : ys.length = len') (hm : len ≤ 1000000) (hm' : len' ≤ 1000000) (hrow : Row w A 2 pairC xs) (hrow' : Row w A' 2 pairC ys) :
    Calls Tryz.prog 22 #[.agg #[.int .i64 lv, .slice A len cap], .agg #[.int .i64 lv', .slice A' len' cap']] w fun e w' => e = .returned (.bool (decide (lv = lv' ∧ xs = ys))) ∧ Ext w w' := by
  have hE := (Ext.alloc w (.cells #[.int .i64 lv, .slice A len cap] 47)).trans (Ext.alloc _ (.cells #[.int .i64 lv', .slice A' len' cap'] 47))
  have HC := Lib.hid (pairs_any A A' len cap len' cap' xs ys _ hlen hlen' hm hm' (hrow.ext hE) (hrow'.ext hE))
  have HE := Lib.hid hE
  by_cases hl : lv = lv'
  · have e : decide (lv = lv' ∧ xs = ys) = decide (xs = ys) := by simp [hl]
    rw [e]
    generalize decide (xs = ys) = B at HC ⊢
    subst hl
    clear hE e hrow hrow'
    go_enter Tryz.func22, Tryz.ntmps22
    go_wp2_with fail
    refine HC.out.mono ?_
    rintro e w2 ⟨rfl, R2⟩
    have HR := Lib.hid (HE.out.trans R2)
    clear R2 HC
    go_wp2_with fail
    go_ret
    exact ⟨rfl, HR.out⟩
  · have e : decide (lv = lv' ∧ xs = ys) = false := by rw [decide_eq_false_iff_not]; exact fun h => hl h.1
    have d1 : (lv == lv') = false := by simpa using hl
    rw [e]
    clear hE e hrow hrow' HC
    go_enter Tryz.func22, Tryz.ntmps22
    go_wp2_with fail
    go_ret
    exact ⟨rfl, HE.out⟩
open Go.RowKit Go.Maps
/-- 'uint(N)'. -/
def uN (N : Int) : Nat := (IntKind.u64.wrap N).toNat
theorem conv_uint (N : Int) (w : World) : (convert 3 26 (.int .i64 N)).run Tryz.prog w = .ok (.int .u64 ((uN N : Nat) : Int)) w := by
  have h : ((uN N : Nat) : Int) = IntKind.u64.wrap N := by
    unfold uN
    have : 0 ≤ IntKind.u64.wrap N := by
      show 0 ≤ N % 18446744073709551616
      omega
    omega
  rw [h]
  simp [convert, run_underlying Tryz.underlying3, run_underlying Tryz.underlying26, Conv.intToInt]
theorem conv_int (m : Nat) (w : World) (h : m ≤ 1000000) : (convert 26 3 (.int .u64 ((m : Nat) : Int))).run Tryz.prog w = .ok (.int .i64 ((m : Nat) : Int)) w := by
  simp [convert, run_underlying Tryz.underlying3, run_underlying Tryz.underlying26, Conv.intToInt, IntWalk.i64_in _ (show -9223372036854775808 ≤ (m : Int) ∧ (m : Int) ≤ 9223372036854775807 by omega)]
section
variable {w : World} {o : Oper} {ρ : Operand → Value} {t u : TypeId} {x y : Operand}
theorem x_remU {m j : Nat} {k : Int} (ho : o.op = .binOp .rem t x y u) (hx : ρ x = .int .u64 (m : Nat)) (hy : ρ y = .int .u64 k) (hk : k = (j : Nat)) (hj : 0 < j) : (execOp ρ o).run Tryz.prog w = .ok (.value (.int .u64 ((m % j : Nat) : Int))) w := by
  subst hk
  refine Z3r ho hx hy ?_
  have h0 : ¬ ((j : Int) = 0) := by omega
  have h2 : (m : Int).tmod (j : Int) = ((m % j : Nat) : Int) := rfl
  simp only [binOp, Op.intDiv, if_neg h0, h2]
  rfl
end
end Go.Proofs.YtakkhglbdljfiaaGreatDoor

/- store's laws: node, slots (printed by XStH.gen.py). -/
namespace Go.Proofs.YtakkhglbdljfiaaGreatDoor
attribute [local simp] BigFrame.eval_const BigFrame.eval_global BigFrame.eval_func
set_option linter.unusedVariables false
set_option linter.unusedSimpArgs false
open Go.RowKit Go.Maps

theorem Z3p (N : Int) (w : World) : (convert 3 37 (.int .i64 N)).run Tryz.prog w = .ok (.int .u64 ((uN N : Nat) : Int)) w := by
 have h : ((uN N : Nat) : Int) = IntKind.u64.wrap N := by
  unfold uN
  have : 0 ≤ IntKind.u64.wrap N := by
   simp only [IntKind.wrap, IntKind.signed, IntKind.bits]
   exact Int.emod_nonneg _ (by decide)
  omega
 rw [h]
 simp [convert, run_underlying Tryz.underlying3, run_underlying Tryz.underlying37, Conv.intToInt]
theorem uN_lt (N : Int) : uN N < 18446744073709551616 := by
 unfold uN
 have h1 : IntKind.u64.wrap N = N % 18446744073709551616 := by simp [IntKind.wrap, IntKind.signed, IntKind.bits]
 rw [h1]
 have := Int.emod_lt_of_pos N (show (0 : Int) < 18446744073709551616 by decide)
 have := Int.emod_nonneg N (show (18446744073709551616 : Int) ≠ 0 by decide)
 omega
/-- The laws' node. -/
def nodeP (n : Int) : List Pr := [(uN n, uN n)]
theorem Z5c (n : Int) : goodB ((0 : Nat) : Int) (nodeP n) = true := by
 rw [Z5f]
 refine ⟨⟨by decide, by decide, by simp [nodeP]⟩, .inl (by decide), fun i hi => ?_⟩
 have : i = 0 := by simp [nodeP] at hi; exact hi
 subst this
 exact ⟨.inl rfl, .inl (by decide)⟩
theorem node_lt (n : Int) : ∀ x ∈ nodeP n, x.1 < 18446744073709551616 ∧ x.2 < 18446744073709551616 := by
 intro x hx; obtain rfl := List.mem_singleton.1 (show x ∈ [(uN n, uN n)] from hx)
 exact ⟨uN_lt n, uN_lt n⟩
abbrev node (n : Int) : Nd := (0, nodeP n)
theorem Z3g (n : Int) : (pgB (node n)).length = 256 := pgB_len (Z5c n) (node_lt n)
theorem node_back (n : Int) : lvAt (pgB (node n)) = 0 ∧ cntAt (pgB (node n)) = 1 ∧ pairsAt (pgB (node n)) (cntAt (pgB (node n))) = nodeP n ∧ readB (pgB (node n)) = true := Z7i 0 (nodeP n) (Z5c n) (node_lt n) _ rfl
/-- A page that holds a node. -/
theorem Z5v {sb p kb fb mb n cap bm : Nat} {B : Option Addr} {S : List Sec} {h : Hd} {at_ : Int} {K : Int → Bool} {m : Int → Option Value} {F : Int → Option Nd} {vs : List Value} {N : List Nd} {M : Mn} (c : Nat) (x : Int) (nn : Int) (hx : x = (c : Nat)) (W0 : World) (hs : StR sb p h at_ kb fb K m W0) (hd : DiscR p mb B n cap bm S noL W0) (ok : StOk (pgs n) K F vs N m) (hc : 1 ≤ c ∧ c < pgs n) (hF : F x = none) (hmn : (tMn mb M).holds W0) (ha : M.away = false) (hp : pgS S c = pgB (node nn)) :
 Calls Tryz.prog 21 #[.pointer (some ⟨sb, 0, none⟩), .int .i64 x] W0 fun e w' => ∃ (By : Option Addr) (cy : Nat), e = .returned (.tuple #[.agg #[.int .i64 0, .slice By 1 cy], .int .i64 0]) ∧ Row w' By 2 pairC (nodeP nn) ∧ Ext W0 w' := by
 obtain ⟨h1, h2, h3, h4⟩ := node_back nn
 have hpe : readL S noL (16 * c) 16 = pgB (node nn) := hp
 refine (Z5u (M := M) c x W0 hs hd ok (by omega) hF hx hmn ha (by rw [hpe]; exact h4)).mono ?_
 rw [hpe, h1, h3, h2]
 rintro e w' ⟨By, cy, rfl, hr, hE⟩
 exact ⟨By, cy, rfl, hr, hE⟩
theorem same_node {W : World} {By Bz : Option Addr} {cy cz : Nat} {a b : Int} (hy : Row W By 2 pairC (nodeP a)) (hz : Row W Bz 2 pairC (nodeP b)) :
 Calls Tryz.prog 22 #[.agg #[.int .i64 0, .slice By 1 cy], .agg #[.int .i64 0, .slice Bz 1 cz]] W fun e w' => e = .returned (.bool (decide (nodeP a = nodeP b))) ∧ Ext W w' := by
 refine (same_any 0 0 By Bz 1 cy 1 cz (nodeP a) (nodeP b) W rfl rfl (by decide) (by decide) hy hz).mono ?_
 rintro e w' ⟨rfl, hE⟩
 refine ⟨congrArg (fun b => Ending.returned (.bool b)) (decide_eq_decide.2 ?_), hE⟩
 exact ⟨fun h => h.2, fun h => ⟨rfl, h⟩⟩

set_option maxRecDepth 100000 in
set_option maxHeartbeats 8000000 in
theorem Z4p (n : Int) (W0 : World) : Calls Tryz.prog 14 #[.int .i64 n] W0 fun e w' => ∃ g, e = .returned (.agg #[.int .i64 0, .slice (some ⟨g, 0, none⟩) 1 1]) ∧ Row w' (some ⟨g, 0, none⟩) 2 pairC (nodeP n) ∧ Ext W0 w' := by
 have O := OwnT.start W0
 refine Z0c Tryz.func14 rfl 10 rfl (by rfl) ?_
 intro a1 k hargs; have e0 : a1.eval (.tmp 0) = .int .i64 n := hargs 0 _ rfl
 clear hargs; refine wp_seq ?_; refine wp_region_lit ?_
 have hE := Env.refl a1 [2]; refine Z0v O (cs := #[.int .i64 0, .slice none 0 0]) (t := 47) 2 hE k rfl (by rfl) (by rfl) rfl (by simp [go_sem, ↓IntWalk.iteOmega]) ?_
 clear O; intro rb a2 w3 O hE e2 kp; refine wpList_nil ?_; replace e0 := hE.g e0; replace k := k.env hE; clear hE; refine Z00 (wp_seq ?_); refine wp_region_lit ?_
 have hE := Env.refl a2 [3, 4, 5, 6, 7, 8, 9]; refine zm 3 hE k e0 ?_; intro a4 hE e3 kp; refine sd 4 hE k (Z4s rfl e3 (Z3p n _)) ?_; intro a5 hE e4 kp; refine zm 5 hE k e0 ?_; intro a6 hE e5 kp; replace e4 := kt kp e4; refine sd 6 hE k (Z4s rfl e5 (Z3p n _)) ?_; intro a7 hE e6 kp; replace e4 := kt kp e4; apply Z03 7 hE k rfl rfl rfl rfl; case h =>
  simp [go_sem, ↓IntWalk.iteOmega, ev e4, ev e6]
  with_reducible rfl
 intro a8 hE e7 kp; refine Z3z (m := 1) (c := 1) O (cs := #[.int .u64 (↑(uN n)), .int .u64 (↑(uN n))]) (t := 98) 8 hE k rfl (by rfl) (by rfl) rfl (by simp [go_sem, ↓IntWalk.iteOmega, ev e7]) ?_
 clear O; intro pb a9 w10 O hE e8 kp; apply Z03 9 hE k rfl rfl rfl rfl; case h =>
  simp [go_sem, ↓IntWalk.iteOmega, ev e8]
  with_reducible rfl
 intro a11 hE e9 kp; refine Z1b O 1 0 hE (hE.g e2) e9 ?_
 clear O; intro w12 O; replace O : OwnT _ _ (_ :: (tBlk rb 47 #[.int .i64 0, .slice (some ⟨pb, 0, none⟩) 1 1]) :: _) w12 := O
 refine wpList_nil ?_; replace e2 := hE.g e2; replace k := k.env hE; clear hE e0 e9; refine Z00 ?_; refine wp_ret ?_
 have hb := OwnT.blk O 0 rfl
 have hrow : Row w12 (some ⟨pb, 0, none⟩) 2 pairC (nodeP n) := by
  intro i x hx; have hi0 : i = 0 := by have := (List.getElem?_eq_some_iff.1 hx).1; simp [nodeP] at this; exact this
  subst hi0
  obtain rfl : (uN n, uN n) = x := by simpa [nodeP] using hx
  refine ⟨pb, 0, rfl, hb.lt, fun j u hu => ?_⟩
  rw [show 0 + 0 * 2 + j = j by omega, hb.cell j, ← Array.getElem?_toList]
  exact hu

 have q0 := OwnT.blk O 1 rfl
 have q0 : w12.cell? ⟨rb, 0, none⟩ = some (.int .i64 0) := (OwnT.blk O 1 rfl).cell 0
 have q1 : w12.cell? ⟨rb, 1, none⟩ = some (.slice (some ⟨pb, 0, none⟩) 1 1) := (OwnT.blk O 1 rfl).cell 1
 refine Z6r rfl k e2 (v := .agg #[.int .i64 0, .slice (some ⟨pb, 0, none⟩) 1 1]) (by simp [go_sem, ↓IntWalk.iteOmega, q0, q1]) ?_
 exact ⟨pb, rfl, hrow, O.below⟩
theorem Z50 (W0 : World) : Calls Tryz.prog 11 #[] W0 fun e w' => e = .returned (.agg #[.int .i64 9, .int .i64 3]) ∧ Ext W0 w' := by
 have O := OwnT.start W0
 refine Z0c Tryz.func11 rfl 2 rfl (by rfl) ?_
 intro a1 k hargs; clear hargs; refine wp_seq ?_; refine wp_region_lit ?_
 have hE := Env.refl a1 [0]; refine Z0v O (cs := #[.int .i64 0, .int .i64 0]) (t := 33) 0 hE k rfl (by rfl) (by rfl) rfl (by simp [go_sem, ↓IntWalk.iteOmega]) ?_
 clear O; intro rb a2 w3 O hE e0 kp; refine wpList_nil ?_; replace k := k.env hE; clear hE; refine Z00 (wp_seq ?_); refine wp_region_lit ?_
 have hE := Env.refl a2 [1]; apply Z03 1 hE k rfl rfl rfl rfl; case h =>
  simp [go_sem, ↓IntWalk.iteOmega]
  with_reducible rfl
 intro a4 hE e1 kp; refine Z1b O 0 0 hE (hE.g e0) e1 ?_
 clear O; intro w5 O; replace O : OwnT _ _ ((tBlk rb 33 #[.int .i64 9, .int .i64 3]) :: _) w5 := O
 refine wpList_nil ?_; replace e0 := hE.g e0; replace k := k.env hE; clear hE e1; refine Z00 ?_; refine wp_ret ?_
 have q0 : w5.cell? ⟨rb, 0, none⟩ = some (.int .i64 9) := (OwnT.blk O 0 rfl).cell 0
 have q1 : w5.cell? ⟨rb, 1, none⟩ = some (.int .i64 3) := (OwnT.blk O 0 rfl).cell 1
 refine Z6r rfl k e0 (v := .agg #[.int .i64 9, .int .i64 3]) (by simp [go_sem, ↓IntWalk.iteOmega, q0, q1]) ?_
 exact ⟨rfl, O.below⟩
end Go.Proofs.YtakkhglbdljfiaaGreatDoor

/- The store at rest: no power goes. -/
namespace Go.Proofs.YtakkhglbdljfiaaGreatDoor
set_option linter.unusedVariables false
set_option linter.unusedSimpArgs false
open Go.RowKit Go.Maps

/-- A formatted device. -/
def fmS (S : List Sec) (L : Int → Option Sec) (h : Hd) : List Sec := nowL S (wrS (hdB h ++ zsec) 0 L 2)
theorem zsec_len : zsec.length = 16 := by unfold zsec; rw [List.length_replicate]
section
variable {S : List Sec} {L : Int → Option Sec} {h : Hd}
theorem fm_len : (fmS S L h).length = S.length := by unfold fmS; rw [Z2f]
theorem fm_0 (hl : 2 ≤ S.length) : sc (fmS S L h) 0 = hdB h := by
  unfold fmS
  rw [Z4a (by omega)]
  unfold nowAt
  rw [Z48, if_pos (by omega)]
  show secOf (hdB h ++ zsec) 0 = hdB h
  unfold secOf
  show ((hdB h ++ zsec).drop (16 * 0)).take 16 = hdB h
  rw [Nat.mul_zero, List.drop_zero, List.take_append_of_le_length (by rw [Z2n]; omega), List.take_of_length_le (by rw [Z2n]; omega)]
theorem fm_1 (hl : 2 ≤ S.length) : sc (fmS S L h) 1 = zsec := by
  unfold fmS
  rw [Z4a (by omega)]
  unfold nowAt
  rw [Z48, if_pos (by omega)]
  show secOf (hdB h ++ zsec) 1 = zsec
  unfold secOf
  rw [Nat.mul_one, List.drop_append, List.drop_eq_nil_of_le (by rw [Z2n]; omega), Z2n, Nat.sub_self, List.nil_append, List.drop_zero, List.take_of_length_le (by rw [zsec_len]; omega)]
end
theorem Z26 {P : Nat} {F : Int → Option Nd} {xs : List Int} {c : Int} : c ∈ todo P F xs ↔ ((0 ≤ c ∧ c < P) ∧ (F c).isSome = true) ∧ c ∈ xs := by
  unfold todo fL
  rw [List.mem_filter, Z3i, decide_eq_true_iff]
theorem todo_ge {P : Nat} {K : Int → Bool} {F : Int → Option Nd} {vs : List Value} {N : List Nd} {m : Int → Option Value} (ok : StOk P K F vs N m) {xs : List Int} : ∀ c ∈ todo P F xs, 1 ≤ c := by
  intro c hc
  obtain ⟨⟨_, h⟩, _⟩ := Z26.1 hc
  obtain ⟨nd, h⟩ := Option.isSome_iff_exists.1 h
  exact (ok.fr c nd h).1
/-- The newest of two heads of a device. -/
theorem Z7m {n : Nat} {S : List Sec} (hd : DOk n S noL) (hn : 2 ≤ n) {h h' : Hd} {o : Nat} (ho : o = 0 ∨ o = 1) (ok : h.Ok) (h1 : sc S o = hdB h) (h2 : sc S (1 - o) = zsec ∨ (sc S (1 - o) = hdB h' ∧ h'.Ok ∧ h'.g < h.g)) :
    (newL (readL S noL 0 2)).1.ok = true ∧ (newL (readL S noL 0 2)).1.hd = h ∧ (newL (readL S noL 0 2)).2 = (o : Nat) := by
  obtain ⟨e1, e2, e3⟩ := heads_read hd hn
  rw [e1, newL_app e2]
  have hy : (hdRead (sc S (1 - o))).ok = false ∨ (hdRead (sc S (1 - o))).g < h.g.toNat := by
    rcases h2 with h2 | ⟨h2, h3, h4⟩
    · rw [h2, hdRead_zero]; exact .inl rfl
    · rw [h2, Z6a h' h3]
      refine .inr ?_
      show h'.g.toNat < h.g.toNat
      have := h3.2.2.2.2.1
      omega
  have hr : hdRead (sc S o) = ⟨true, h.g.toNat, h.r, h.a, h.b, h.c⟩ := by rw [h1, Z6a h ok]
  have hh := hd_of h ok
  rcases ho with rfl | rfl
  · rw [hr, newest_fst ok (hy.imp id Nat.le_of_lt)]
    exact ⟨rfl, hh, rfl⟩
  · rw [hr, newest_snd ok hy]
    exact ⟨rfl, hh, rfl⟩
section
variable {H : Nat} {A0 : World} {R : List Thing} {sb p kb fb mb n cap bm : Nat} {B : Option Addr} {S : List Sec} {L : Int → Option Sec} {h : Hd} {at_ : Int} {K : Int → Bool} {m : Int → Option Value} {F : Int → Option Nd} {vs : List Value} {N : List Nd} {M : Mn}
theorem Z49 {c0 : Int} (s0 s1 ch : Int) (w : World) (O : OwnT H A0 (tDisc p mb B n cap bm S L :: tMn mb M :: R) w) (hok : (fmtHd s0 s1 ch).Ok) (hp2 : 2 ≤ pgs n) (hM : M.Ok c0) (hc : c0 ≤ 800000000000) (hF : M.Free) :
    Calls Tryz.prog 9 #[.pointer (some ⟨p, 0, none⟩), .agg #[.int .i64 s0, .int .i64 s1], .int .i64 ch] w fun e w' => ∃ (j sb kb fb : Nat), j ≤ 3 ∧ e = .returned (.tuple #[.pointer (some ⟨sb, 0, none⟩), .int .i64 0]) ∧ OwnT H A0 (stL sb p (fmtHd s0 s1 ch) 0 kb fb (fun _ => false) (fun _ => none) [] [] (tDisc p mb B n cap bm (fmS S L (fmtHd s0 s1 ch)) noL :: tMn mb (M.useN j) :: R)) w' := by
  refine (sformat_go s0 s1 ch w O hok hp2 hM hc).mono ?_
  rintro e w' ⟨j, hj, ⟨sb, kb, fb, rfl, O'⟩ | ⟨hN, _⟩⟩
  · exact ⟨j, sb, kb, fb, hj, rfl, O'⟩
  · exact absurd hF hN
theorem Z7d {A : Option Addr} {ca : Nat} {xs : List Int} {c0 : Int} (o : Nat) (root : Int) (w : World) (O : OwnT H A0 (stL sb p h at_ kb fb K m vs N (tDisc p mb B n cap bm S noL :: tMn mb M :: R)) w) (ok : StOk (pgs n) K F vs N m) (hrow : ∀ W, OwnT H A0 R W → Row1 W A (Value.int .i64) xs) (hn : xs.length ≤ 1000000) (hg : 0 ≤ h.g ∧ h.g ≤ 4294967295) (hat : (at_ = 0 ∧ o = 1) ∨ (at_ = 1 ∧ o = 0)) (hn32 : 2 ≤ n) (hM : M.Ok c0) (hc : c0 ≤ 800000000000) (hok : (nextHd h root).Ok) (hlost : xs.any (lostB (pgs n) K F) = false) (hrt : root = 0 ∨ root ∈ xs) (hF : M.Free) :
    Calls Tryz.prog 19 #[.pointer (some ⟨sb, 0, none⟩), .int .i64 root, .slice A xs.length ca] w fun e w' => ∃ (j : Nat) (m' : Int → Option Value), e = .returned (.int .i64 0) ∧ j ≤ 9100 ∧ OwnT H A0 (stL sb p (nextHd h root) (o : Nat) kb fb (inP (pgs n) xs) m' vs N (tDisc p mb B n cap bm (cmS S F (todo (pgs n) F xs) o (hdB (nextHd h root))) noL :: tMn mb (M.useN j) :: R)) w' ∧ StOk (pgs n) (inP (pgs n) xs) (fun _ => none) vs N m' := by
  have ho : (1 : Int) - at_ = (o : Nat) := by omega
  refine (scommit_go root w O ok hrow hn hg rfl (by omega) hn32 hM hc hok hlost hrt).mono ?_
  rintro e w' ⟨c, j, rfl, hj, ⟨rfl, m', O', ok'⟩ | ⟨_, hN, _⟩⟩
  · rw [ho] at O'
    exact ⟨j, m', rfl, hj, O', ok'⟩
  · exact absurd hF hN
theorem sopen_is {h1 : Hd} {at1 : Int} (w : World) (O : OwnT H A0 (tDisc p mb B n cap bm S noL :: tMn mb M :: R) w) (hp2 : 2 ≤ pgs n) (ha : M.away = false) (hx : (newL (readL S noL 0 2)).1.ok = true ∧ (newL (readL S noL 0 2)).1.hd = h1 ∧ (newL (readL S noL 0 2)).2 = at1) :
    Calls Tryz.prog 34 #[.pointer (some ⟨p, 0, none⟩)] w fun e w' => ∃ (sb kb fb : Nat), e = .returned (.tuple #[.pointer (some ⟨sb, 0, none⟩), .int .i64 0]) ∧ OwnT H A0 (stL sb p h1 at1 kb fb (fun _ => false) (fun _ => none) [] [] (tDisc p mb B n cap bm S noL :: tMn mb M :: R)) w' := by
  obtain ⟨h1, h2, h3⟩ := hx
  have := sopen_ok w O hp2 ha h1
  rw [h2, h3] at this
  exact this
/-- A node is added. -/
theorem Z7e (nn : Int) {g : Nat} (w : World) (O : OwnT H A0 (stL sb p h at_ kb fb K m vs N (tDisc p mb B n cap bm S L :: R)) w) (ok : StOk (pgs n) K F vs N m) (hrow : Row w (some ⟨g, 0, none⟩) 2 pairC (nodeP nn)) :
    Calls Tryz.prog 13 #[.pointer (some ⟨sb, 0, none⟩), .agg #[.int .i64 0, .slice (some ⟨g, 0, none⟩) 1 1]] w fun e w' =>
      (∃ (c : Nat) (m' : Int → Option Value) (vs' : List Value) (N' : List Nd), FirstFree (pgs n) K F c ∧ e = .returned (.tuple #[.int .i64 c, .int .i64 0]) ∧ OwnT H A0 (stL sb p h at_ kb fb K m' vs' N' (tDisc p mb B n cap bm S L :: R)) w' ∧ StOk (pgs n) K (putF F c (node nn)) vs' N' m') ∨ (NoFree (pgs n) K F ∧ e = .returned (.tuple #[.int .i64 0, .int .i64 6]) ∧ OwnT H A0 (stL sb p h at_ kb fb K m vs N (tDisc p mb B n cap bm S L :: R)) w') :=
  sadd_any 0 (some ⟨g, 0, none⟩) 1 (nodeP nn) w O ok hrow (by simp [nodeP]) (node_lt nn) (.inr ⟨g, 0, rfl⟩) (Z5c nn)
theorem sread_new (x nn : Int) (W0 : World) (hs : StR sb p h at_ kb fb K m W0) (hd : DiscR p mb B n cap bm S L W0) (ok : StOk (pgs n) K F vs N m) (hp : (tPool vs N).holds W0) (hF : F x = some (node nn)) :
    Calls Tryz.prog 21 #[.pointer (some ⟨sb, 0, none⟩), .int .i64 x] W0 fun e w' => ∃ (By : Option Addr) (cy : Nat), e = .returned (.tuple #[.agg #[.int .i64 0, .slice By 1 cy], .int .i64 0]) ∧ Row w' By 2 pairC (nodeP nn) ∧ Ext W0 w' :=
  Z8a x W0 hs hd ok hp 0 (nodeP nn) hF
theorem FirstFree.eq {P : Nat} {K : Int → Bool} {F : Int → Option Nd} {c d : Nat} (h : FirstFree P K F c) (k : FirstFree P K F d) : c = d := by
  rcases Nat.lt_trichotomy c d with e | e | e
  · have := k.2.2.2 c h.1 e
    rw [h.2.2.1] at this
    cases this
  · exact e
  · have := h.2.2.2 d k.1 e
    rw [k.2.2.1] at this
    cases this
theorem FirstFree.some {P : Nat} {K : Int → Bool} {F : Int → Option Nd} {c : Nat} (h : FirstFree P K F c) (k : NoFree P K F) : False := by
  have := k c h.1 h.2.1
  rw [h.2.2.1] at this
  cases this
theorem sadd_at (nn : Int) (c : Nat) (x : Int) (hx : x = (c : Nat)) {g : Nat} (w : World) (O : OwnT H A0 (stL sb p h at_ kb fb K m vs N (tDisc p mb B n cap bm S L :: R)) w) (ok : StOk (pgs n) K F vs N m) (hrow : Row w (some ⟨g, 0, none⟩) 2 pairC (nodeP nn)) (hf : FirstFree (pgs n) K F c) :
    Calls Tryz.prog 13 #[.pointer (some ⟨sb, 0, none⟩), .agg #[.int .i64 0, .slice (some ⟨g, 0, none⟩) 1 1]] w fun e w' =>
      ∃ (m' : Int → Option Value) (vs' : List Value) (N' : List Nd), e = .returned (.tuple #[.int .i64 x, .int .i64 0]) ∧ OwnT H A0 (stL sb p h at_ kb fb K m' vs' N' (tDisc p mb B n cap bm S L :: R)) w' ∧ StOk (pgs n) K (putF F x (node nn)) vs' N' m' := by
  subst hx
  refine (Z7e nn w O ok hrow).mono ?_
  rintro e w' (⟨d, m', vs', N', hd, rfl, O', ok'⟩ | ⟨hn, _⟩)
  · obtain rfl := hf.eq hd
    exact ⟨m', vs', N', rfl, O', ok'⟩
  · exact (hf.some hn).elim
theorem OwnT.graft {L1 L2 : List Thing} {w w' : World} (h : OwnT H A0 L1 w) (k : OwnT w.heap.size w L2 w') : OwnT H A0 (L2 ++ L1) w' := by
  have h1 := h.ext k.below
  refine ⟨h1.below, h1.size, Ths.of fun x hx => ?_, fun x hx i hi => ?_, List.pairwise_append.2 ⟨k.diff, h.diff, fun x hx y hy i hi hj => ?_⟩⟩
  · rcases List.mem_append.1 hx with hx | hx
    · exact k.all.mem hx
    · exact h1.all.mem hx
  · rcases List.mem_append.1 hx with hx | hx
    · have := k.high x hx i hi
      have := h.size
      omega
    · exact h.high x hx i hi
  · have := k.high x hx i hi
    have := h.lt hy hj
    omega
theorem sread_add (x nn : Int) (w : World) (O : OwnT H A0 (stL sb p h at_ kb fb K m vs N (tDisc p mb B n cap bm S L :: R)) w) (ok : StOk (pgs n) K F vs N m) (hF : F x = some (node nn)) :
    Calls Tryz.prog 21 #[.pointer (some ⟨sb, 0, none⟩), .int .i64 x] w fun e w' => ∃ (By : Option Addr) (cy : Nat), e = .returned (.tuple #[.agg #[.int .i64 0, .slice By 1 cy], .int .i64 0]) ∧ OwnT H A0 (tPs (.slice By 1 cy) (nodeP nn) :: stL sb p h at_ kb fb K m vs N (tDisc p mb B n cap bm S L :: R)) w' := by
  refine (Z77 x w (OwnT.stR O) (OwnT.disc (OwnT.pull O 4 rfl)) ok (OwnT.get O 3 rfl) 0 (nodeP nn) hF).mono ?_
  rintro e w' ⟨By, cy, rfl, k⟩
  exact ⟨By, cy, rfl, O.graft k⟩
theorem row1_blk {w : World} {g : Nat} {T : TypeId} {xs : List Int} (h : Blk w g T (xs.map (Value.int .i64)).toArray) : Row1 w (some ⟨g, 0, none⟩) (Value.int .i64) xs := by
  intro i x hx
  refine ⟨g, 0, rfl, h.lt, ?_⟩
  rw [Nat.zero_add, h.cell i]
  simp [hx]
theorem Z25 {W : World} {By Bz : Option Addr} {cy cz : Nat} {a : Int} (hy : Row W By 2 pairC (nodeP a)) (hz : Row W Bz 2 pairC (nodeP a)) :
    Calls Tryz.prog 22 #[.agg #[.int .i64 0, .slice By 1 cy], .agg #[.int .i64 0, .slice Bz 1 cz]] W fun e w' => e = .returned (.bool true) ∧ Ext W w' := by
  refine (same_node hy hz).mono ?_
  rintro e w' ⟨rfl, hE⟩
  rw [decide_eq_true rfl]
  exact ⟨rfl, hE⟩
/-- Where a device's heads are: the committed one is the newest. -/
def HeadsAt (S : List Sec) (h : Hd) (o : Nat) : Prop := (o = 0 ∨ o = 1) ∧ h.Ok ∧ sc S o = hdB h ∧ (sc S (1 - o) = zsec ∨ ∃ h' : Hd, sc S (1 - o) = hdB h' ∧ h'.Ok ∧ h'.g < h.g)
theorem heads_fm {h : Hd} (hl : 2 ≤ S.length) (ok : h.Ok) : HeadsAt (fmS S L h) h 0 := ⟨.inl rfl, ok, fm_0 hl, .inl (fm_1 hl)⟩
theorem heads_cm {h : Hd} {o : Nat} {root : Int} {td : List Int} (hh : HeadsAt S h o) (hl : 2 ≤ S.length) (ok : (nextHd h root).Ok) (htd : ∀ c ∈ td, 1 ≤ c) : HeadsAt (cmS S F td (1 - o) (hdB (nextHd h root))) (nextHd h root) (1 - o) := by
  obtain ⟨h1, h2, h3, h4⟩ := hh
  refine ⟨by omega, ok, cm_hd (by omega) (Z2n _), .inr ⟨h, ?_, h2, ?_⟩⟩
  · rw [show 1 - (1 - o) = o by omega, cm_other (by omega) (by omega) (by omega) htd]
    exact h3
  · show h.g < h.g + 1
    omega
theorem HeadsAt.newest {h : Hd} {o : Nat} (hh : HeadsAt S h o) (hd : DOk n S noL) (hn : 2 ≤ n) : (newL (readL S noL 0 2)).1.ok = true ∧ (newL (readL S noL 0 2)).1.hd = h ∧ (newL (readL S noL 0 2)).2 = (o : Nat) := by
  obtain ⟨h1, h2, h3, h4 | ⟨h', h4⟩⟩ := hh
  · exact Z7m (h' := h) hd hn h1 h2 h3 (.inl h4)
  · exact Z7m hd hn h1 h2 h3 (.inr h4)
/-- A whole commit of a sound store. -/
theorem Z5y {A : Option Addr} {ca : Nat} {xs : List Int} {c0 : Int} {o : Nat} (root : Int) (w : World) (O : OwnT H A0 (stL sb p h (o : Nat) kb fb K m vs N (tDisc p mb B n cap bm S noL :: tMn mb M :: R)) w) (ok : StOk (pgs n) K F vs N m) (hrow : ∀ W, OwnT H A0 R W → Row1 W A (Value.int .i64) xs) (hn : xs.length ≤ 1000000) (hh : HeadsAt S h o) (hn32 : 2 ≤ n) (hM : M.Ok c0) (hc : c0 ≤ 800000000000) (hok : (nextHd h root).Ok) (hlost : xs.any (lostB (pgs n) K F) = false) (hrt : root = 0 ∨ root ∈ xs) (hF : M.Free) :
    Calls Tryz.prog 19 #[.pointer (some ⟨sb, 0, none⟩), .int .i64 root, .slice A xs.length ca] w fun e w' => ∃ (j : Nat) (m' : Int → Option Value), e = .returned (.int .i64 0) ∧ j ≤ 9100 ∧ OwnT H A0 (stL sb p (nextHd h root) ((1 - o : Nat) : Int) kb fb (inP (pgs n) xs) m' vs N (tDisc p mb B n cap bm (cmS S F (todo (pgs n) F xs) (1 - o) (hdB (nextHd h root))) noL :: tMn mb (M.useN j) :: R)) w' ∧ StOk (pgs n) (inP (pgs n) xs) (fun _ => none) vs N m' ∧ HeadsAt (cmS S F (todo (pgs n) F xs) (1 - o) (hdB (nextHd h root))) (nextHd h root) (1 - o) := by
  have hd := (OwnT.disc (OwnT.pull O 4 rfl)).ok
  have hl := hd.len
  have hx := hh.2.1.2.2.2.2.1
  have hx2 := hh.2.1.2.2.2.2.2.1
  refine (Z7d (1 - o) root w O ok hrow hn (by omega) (by have := hh.1; omega) hn32 hM hc hok hlost hrt hF).mono ?_
  rintro e w' ⟨j, m', rfl, hj, O', ok'⟩
  exact ⟨j, m', rfl, hj, O', ok', heads_cm hh (by omega) hok (todo_ge ok)⟩
end
end Go.Proofs.YtakkhglbdljfiaaGreatDoor

/- store's laws: awake (printed by XStI.gen.py). -/
namespace Go.Proofs.YtakkhglbdljfiaaGreatDoor
attribute [local simp] BigFrame.eval_const BigFrame.eval_global BigFrame.eval_func
set_option linter.unusedVariables false
set_option linter.unusedSimpArgs false
open Go.RowKit Go.Maps

abbrev fm07 : Hd := fmtHd 9 3 2
theorem fm07_ok : fm07.Ok := by decide
theorem fm07_next : (nextHd fm07 1).Ok := by decide
def aw07 : List Sec := List.replicate 64 zsec
def S07 : List Sec := fmS aw07 noL fm07
theorem S07_len : S07.length = 64 := by unfold S07; rw [fm_len]; exact List.length_replicate
abbrev F07 : Int → Option Nd := putF (fun _ => none) 1 (node 5)
def T07 : List Sec := cmS S07 F07 (todo (pgs 64) F07 [1]) (1 - 0) (hdB (nextHd fm07 1))
theorem todo07 : (1 : Int) ∈ todo (pgs 64) F07 [1] := Z26.2 ⟨⟨by decide, by decide⟩, by decide⟩
theorem first07 : FirstFree (pgs 64) (fun _ => false) (fun _ => none) 1 := ⟨by decide, by decide, rfl, fun d h1 h2 => by omega⟩
theorem lost07 : ([1] : List Int).any (lostB (pgs 64) (fun _ => false) F07) = false := by
 simp [lostB, freeB, putF]
theorem page07 : pgS T07 1 = pgB (node 5) := by
 unfold T07
 exact cm_new (c := 1) (nd := node 5) (by rw [S07_len]; decide) (by decide) (by decide) todo07 rfl (Z3g 5)
theorem fld_gen (g r a b c : Int) : ∀ w, (Instr.field 39 (.agg #[.int .u64 g, .int .i64 r, .int .i64 a, .int .i64 b, .int .i64 c]) 0).run Tryz.prog w = .ok (.int .u64 g) w := fun _ => by kernel_rfl
theorem fld_root (g r a b c : Int) : ∀ w, (Instr.field 39 (.agg #[.int .u64 g, .int .i64 r, .int .i64 a, .int .i64 b, .int .i64 c]) 1).run Tryz.prog w = .ok (.int .i64 r) w := fun _ => by kernel_rfl
theorem stok_nil {P : Nat} (h : P ≤ 512) : StOk P (fun _ => false) (fun _ => none) [] [] (fun _ => none) :=
 ⟨h, (fun c hc => by cases hc), (fun c nd hc => by cases hc), (fun c nd hc => by cases hc), (fun _ _ => rfl), (fun c nd hc => by cases hc)⟩

set_option maxRecDepth 100000 in
set_option maxHeartbeats 8000000 in
theorem awake07 (W0 : World) : Calls Tryz.prog 7 #[] W0 fun e w' => e = .returned (.bool true) ∧ Ext W0 w' := by
 have O := OwnT.start W0
 refine Z0c Tryz.func7 rfl 112 rfl (by rfl) ?_
 intro a1 k hargs; clear hargs; have ok0 := stok_nil (P := pgs 64) (by decide)
 refine wp_seq ?_; refine wp_region_lit ?_
 have hE := Env.refl a1 [0]; refine sd 0 hE k (Z01 rfl rfl) ?_; intro a2 hE e0 kp; refine wpList_nil ?_; replace k := k.env hE; clear hE e0; refine Z00 (wp_seq ?_); refine wp_region_lit ?_
 have hE := Env.refl a2 [14, 1]; apply Z06 14 hE k rfl (by rfl) (by rfl) rfl
 case h =>
  simp [go_sem, ↓IntWalk.iteOmega]
  with_reducible exact ⟨rfl, rfl⟩
 case hc => exact new_mn O
 clear O; rintro e w4 ⟨mb, rfl, O⟩
 refine ⟨_, rfl, ?_⟩
 intro a3 hE e14 kp; refine sd 1 hE k (Z01 rfl e14) ?_; intro a5 hE e1 kp; refine wpList_nil ?_; replace k := k.env hE; clear hE; refine Z00 (wp_seq ?_); refine wp_region_lit ?_
 have hE := Env.refl a5 [15, 16, 2]; refine zm 15 hE k e1 ?_; intro a6 hE e15 kp; apply Z06 16 hE k rfl (by rfl) (by rfl) rfl
 case h =>
  simp [go_sem, ↓IntWalk.iteOmega, ev e15]
  with_reducible exact ⟨rfl, rfl⟩
 case hc => exact dnew_any 64 64 _ O (by decide)
 clear O; rintro e w8 ⟨p, B, cap, bm, rfl, O⟩
 refine ⟨_, rfl, ?_⟩
 intro a7 hE e16 kp; refine sd 2 hE k (Z01 rfl e16) ?_; intro a9 hE e2 kp; refine wpList_nil ?_; replace k := k.env hE; clear hE e1; refine Z00 (wp_seq ?_); refine wp_region_lit ?_
 have hE := Env.refl a9 [18, 19, 20, 17, 21, 22, 3, 4]; refine zm 18 hE k e2 ?_; intro a10 hE e18 kp; apply Z06 19 hE k rfl (by rfl) (by rfl) rfl
 case h =>
  simp [go_sem, ↓IntWalk.iteOmega]
  with_reducible exact ⟨rfl, rfl⟩
 case hc => exact Z50 _
 rintro e w12 ⟨rfl, RE⟩
 replace O := OwnT.ext O RE; refine ⟨_, rfl, ?_⟩
 intro a11 hE e19 kp; replace e18 := kt kp e18; apply Z06 20 hE k rfl (by rfl) (by rfl) rfl
 case h =>
  simp [go_sem, ↓IntWalk.iteOmega, ev e18, ev e19]
  with_reducible exact ⟨rfl, rfl⟩
 case hc => exact Z49 (S := aw07) 9 3 2 _ O fm07_ok (by decide) mn0_ok (by decide) mn0_free
 clear O; rintro e w14 ⟨j, sb, kb, fb, hj, rfl, O⟩
 refine ⟨_, rfl, ?_⟩
 intro a13 hE e20 kp; refine sd 17 hE k (Z02 rfl e20) ?_; intro a15 hE e17 kp; apply Z03 21 hE k rfl rfl rfl rfl; case h =>
  simp [go_sem, ↓IntWalk.iteOmega, ev e17]
  with_reducible rfl
 intro a16 hE e21 kp; replace e17 := kt kp e17; apply Z03 22 hE k rfl rfl rfl rfl; case h =>
  simp [go_sem, ↓IntWalk.iteOmega, ev e17]
  with_reducible rfl
 intro a17 hE e22 kp; replace e21 := kt kp e21; refine sd 3 hE k (Z01 rfl e21) ?_; intro a18 hE e3 kp; replace e22 := kt kp e22; refine sd 4 hE k (Z01 rfl e22) ?_; intro a19 hE e4 kp; replace e3 := kt kp e3; refine wpList_nil ?_; replace e2 := hE.g e2; replace k := k.env hE; clear hE; refine Z00 (wp_seq ?_); refine wp_seq ?_; refine wp_region_lit ?_
 have hE := Env.refl a19 [23, 24, 25, 26, 27, 28]; refine zm 23 hE k e4 ?_; intro a20 hE e23 kp; refine sd 24 hE k (Z08 (Z0x rfl e23 rfl) (decide_eq_false (by omega))) ?_
 intro a21 hE e24 kp; refine sd 25 hE k (Z02 rfl e24) ?_; intro a22 hE e25 kp; apply Z04 26 hE k rfl rfl rfl rfl rfl e25
 case h =>
  exact Z02 rfl (hE.g e3)
 intro a23 hE e26 kp; replace e25 := kt kp e25; apply Z04 27 hE k rfl rfl rfl rfl rfl e25
 case h =>
  simp [go_sem, ↓IntWalk.iteOmega, ev e26]
  with_reducible rfl
 intro a24 hE e27 kp; replace e25 := kt kp e25; refine sd 28 hE k (Z09 rfl e25 e27) ?_; intro a25 hE e28 kp; refine wpList_nil ?_; replace e2 := hE.g e2; replace e3 := hE.g e3; replace k := k.env hE; clear hE e4; refine Z00 ?_; refine Z07 e28 rfl ?_
 refine wp_skip ?_; refine Z00 (wp_seq ?_); refine wp_region_lit ?_
 have hE := Env.refl a25 [30, 31, 32, 29, 33, 34, 5, 6]; refine zm 30 hE k e3 ?_; intro a26 hE e30 kp; apply Z06 31 hE k rfl (by rfl) (by rfl) rfl
 case h =>
  simp [go_sem, ↓IntWalk.iteOmega]
  with_reducible exact ⟨rfl, rfl⟩
 case hc => exact Z4p 5 _
 rintro e w28 ⟨g, rfl, hrow, RE⟩
 replace O := OwnT.ext O RE; refine ⟨_, rfl, ?_⟩
 intro a27 hE e31 kp; replace e30 := kt kp e30; apply Z06 32 hE k rfl (by rfl) (by rfl) rfl
 case h =>
  simp [go_sem, ↓IntWalk.iteOmega, ev e30, ev e31]
  with_reducible exact ⟨rfl, rfl⟩
 case hc => exact sadd_at 5 1 1 rfl _ O ok0 hrow first07
 clear O; rintro e w30 ⟨m1, vs1, N1, rfl, O, ok1⟩
 clear hrow; refine ⟨_, rfl, ?_⟩
 intro a29 hE e32 kp; refine sd 29 hE k (Z02 rfl e32) ?_; intro a31 hE e29 kp; apply Z03 33 hE k rfl rfl rfl rfl; case h =>
  simp [go_sem, ↓IntWalk.iteOmega, ev e29]
  with_reducible rfl
 intro a32 hE e33 kp; replace e29 := kt kp e29; apply Z03 34 hE k rfl rfl rfl rfl; case h =>
  simp [go_sem, ↓IntWalk.iteOmega, ev e29]
  with_reducible rfl
 intro a33 hE e34 kp; replace e33 := kt kp e33; refine sd 5 hE k (Z01 rfl e33) ?_; intro a34 hE e5 kp; replace e34 := kt kp e34; refine sd 6 hE k (Z01 rfl e34) ?_; intro a35 hE e6 kp; replace e5 := kt kp e5; refine wpList_nil ?_; replace e2 := hE.g e2; replace e3 := hE.g e3; replace k := k.env hE; clear hE e28; refine Z00 (wp_seq ?_); refine wp_region_lit ?_
 have hE := Env.refl a35 [36, 37, 38, 35, 39, 40, 7, 8]; refine zm 36 hE k e3 ?_; intro a36 hE e36 kp; refine zm 37 hE k e5 ?_; intro a37 hE e37 kp; replace e36 := kt kp e36; apply Z06 38 hE k rfl (by rfl) (by rfl) rfl
 case h =>
  simp [go_sem, ↓IntWalk.iteOmega, ev e36, ev e37]
  with_reducible exact ⟨rfl, rfl⟩
 case hc => exact sread_add 1 5 _ O ok1 rfl
 clear O; rintro e w39 ⟨By, cy, rfl, O⟩
 refine ⟨_, rfl, ?_⟩
 intro a38 hE e38 kp; refine sd 35 hE k (Z02 rfl e38) ?_; intro a40 hE e35 kp; apply Z03 39 hE k rfl rfl rfl rfl; case h =>
  simp [go_sem, ↓IntWalk.iteOmega, ev e35]
  with_reducible rfl
 intro a41 hE e39 kp; replace e35 := kt kp e35; apply Z03 40 hE k rfl rfl rfl rfl; case h =>
  simp [go_sem, ↓IntWalk.iteOmega, ev e35]
  with_reducible rfl
 intro a42 hE e40 kp; replace e39 := kt kp e39; refine Z0v O (cs := #[.int .i64 0, .slice none 0 0]) (t := 47) 7 hE k rfl (by rfl) (by rfl) rfl (by simp [go_sem, ↓IntWalk.iteOmega]) ?_
 clear O; intro lb a43 w44 O hE e7 kp; replace e39 := kt kp e39; replace e40 := kt kp e40; refine Z1b O 0 0 hE e7 e39 ?_
 clear O; intro w45 O; replace O : OwnT _ _ ((tBlk lb 47 #[.int .i64 0, .slice By 1 cy]) :: _) w45 := O
 refine sd 8 hE k (Z01 rfl e40) ?_; intro a46 hE e8 kp; replace e7 := kt kp e7; refine wpList_nil ?_; replace e2 := hE.g e2; replace e3 := hE.g e3; replace e5 := hE.g e5; replace e6 := hE.g e6; replace k := k.env hE; clear hE; refine Z00 (wp_seq ?_); refine wp_region_lit ?_
 have hE := Env.refl a46 [41, 42, 43, 44, 45, 9]; refine zm 41 hE k e3 ?_; intro a47 hE e41 kp; refine zm 42 hE k e5 ?_; intro a48 hE e42 kp; replace e41 := kt kp e41; refine zm 43 hE k e5 ?_; intro a49 hE e43 kp; replace e41 := kt kp e41; replace e42 := kt kp e42; refine Z3z (m := 1) (c := 1) O (cs := #[.int .i64 1]) (t := 3) 44 hE k rfl (by rfl) (by rfl) rfl (by simp [go_sem, ↓IntWalk.iteOmega, ev e43]) ?_
 clear O; intro g8 a50 w51 O hE e44 kp; replace e41 := kt kp e41; replace e42 := kt kp e42; apply Z06 45 hE k rfl (by rfl) (by rfl) rfl
 case h =>
  simp [go_sem, ↓IntWalk.iteOmega, ev e41, ev e42, ev e44]
  with_reducible exact ⟨rfl, rfl⟩
 case hc => exact Z5y (o := 0) (R := [tBlk g8 3 #[.int .i64 1], tBlk lb 47 #[.int .i64 0, .slice By 1 cy], tPs (.slice By 1 cy) (nodeP 5)]) (xs := [1]) 1 _ (OwnT.pick O [3, 4, 5, 6, 7, 8, 0, 1, 2] (by decide)) ok1 (fun W OW => row1_blk OW.t0) (by decide) (heads_fm (by decide) fm07_ok) (by decide) (mn0_ok.useN j) (by omega) fm07_next lost07 (.inr (by decide)) (mn0_free.useN j)
 clear O; rintro e w53 ⟨j2, m2, rfl, hj2, O, ok2, hh2⟩
 refine ⟨_, rfl, ?_⟩
 intro a52 hE e45 kp; refine sd 9 hE k (Z01 rfl e45) ?_; intro a54 hE e9 kp; refine wpList_nil ?_; replace e2 := hE.g e2; replace e3 := hE.g e3; replace e5 := hE.g e5; replace e6 := hE.g e6; replace e7 := hE.g e7; replace e8 := hE.g e8; replace k := k.env hE; clear hE; refine Z00 ?_; have hnw := hh2.newest (OwnT.disc (OwnT.pull O 4 rfl)).ok (by decide)
 obtain ⟨K2, hK2⟩ : ∃ K2, inP (pgs 64) [1] = K2 := ⟨_, rfl⟩
 rw [hK2] at O ok2
 refine wp_seq ?_; refine wp_region_lit ?_
 have hE := Env.refl a54 [47, 48, 46, 49, 50, 10, 11]; refine zm 47 hE k e2 ?_; intro a55 hE e47 kp; apply Z06 48 hE k rfl (by rfl) (by rfl) rfl
 case h =>
  simp [go_sem, ↓IntWalk.iteOmega, ev e47]
  with_reducible exact ⟨rfl, rfl⟩
 case hc => exact sopen_is (R := [tBlk sb 102 (stB p (nextHd fm07 1) 1 kb fb), tMap kb 512 (keptV K2), tMap fb 512 m2, tPool vs1 N1, tBlk g8 3 #[.int .i64 1], tBlk lb 47 #[.int .i64 0, .slice By 1 cy], tPs (.slice By 1 cy) (nodeP 5)]) _ (OwnT.pick O [4, 5, 0, 1, 2, 3, 6, 7, 8] (by decide)) (by decide) ((mn0_free.useN j).useN j2).1 hnw
 clear O; rintro e w57 ⟨ub, kb2, fb2, rfl, O⟩
 refine ⟨_, rfl, ?_⟩
 intro a56 hE e48 kp; refine sd 46 hE k (Z02 rfl e48) ?_; intro a58 hE e46 kp; apply Z03 49 hE k rfl rfl rfl rfl; case h =>
  simp [go_sem, ↓IntWalk.iteOmega, ev e46]
  with_reducible rfl
 intro a59 hE e49 kp; replace e46 := kt kp e46; apply Z03 50 hE k rfl rfl rfl rfl; case h =>
  simp [go_sem, ↓IntWalk.iteOmega, ev e46]
  with_reducible rfl
 intro a60 hE e50 kp; replace e49 := kt kp e49; refine sd 10 hE k (Z01 rfl e49) ?_; intro a61 hE e10 kp; replace e50 := kt kp e50; refine sd 11 hE k (Z01 rfl e50) ?_; intro a62 hE e11 kp; replace e10 := kt kp e10; refine wpList_nil ?_; replace e3 := hE.g e3; replace e5 := hE.g e5; replace e6 := hE.g e6; replace e7 := hE.g e7; replace e8 := hE.g e8; replace e9 := hE.g e9; replace k := k.env hE; clear hE e2; refine Z00 (wp_seq ?_); refine wp_seq ?_; refine wp_region_lit ?_
 have hE := Env.refl a62 [51, 52, 53, 54, 55, 56]; refine zm 51 hE k e11 ?_; intro a63 hE e51 kp; refine sd 52 hE k (Z08 (Z0x rfl e51 rfl) (decide_eq_false (by omega))) ?_
 intro a64 hE e52 kp; refine sd 53 hE k (Z02 rfl e52) ?_; intro a65 hE e53 kp; apply Z04 54 hE k rfl rfl rfl rfl rfl e53
 case h =>
  exact Z02 rfl (hE.g e10)
 intro a66 hE e54 kp; replace e53 := kt kp e53; apply Z04 55 hE k rfl rfl rfl rfl rfl e53
 case h =>
  simp [go_sem, ↓IntWalk.iteOmega, ev e54]
  with_reducible rfl
 intro a67 hE e55 kp; replace e53 := kt kp e53; refine sd 56 hE k (Z09 rfl e53 e55) ?_; intro a68 hE e56 kp; refine wpList_nil ?_; replace e3 := hE.g e3; replace e5 := hE.g e5; replace e6 := hE.g e6; replace e7 := hE.g e7; replace e8 := hE.g e8; replace e9 := hE.g e9; replace e10 := hE.g e10; replace k := k.env hE; clear hE e11; refine Z00 ?_; refine Z07 e56 rfl ?_
 refine wp_skip ?_; refine Z00 (wp_seq ?_); refine wp_region_lit ?_
 have hE := Env.refl a68 [58, 59, 57, 60, 61, 12, 13]; refine zm 58 hE k e10 ?_; intro a69 hE e58 kp; apply Z06 59 hE k rfl (by rfl) (by rfl) rfl
 case h =>
  simp [go_sem, ↓IntWalk.iteOmega, ev e58]
  with_reducible exact ⟨rfl, rfl⟩
 case hc => exact Z5v (M := (mn0.useN j).useN j2) 1 1 5 rfl _ (OwnT.stR O) (OwnT.disc (OwnT.pull O 4 rfl)) ok0 (by decide) rfl (OwnT.get O 5 rfl) ((mn0_free.useN j).useN j2).1 page07
 rintro e w71 ⟨Bk, ck, rfl, hk, RE⟩
 replace O := OwnT.ext O RE; refine ⟨_, rfl, ?_⟩
 intro a70 hE e59 kp; refine sd 57 hE k (Z02 rfl e59) ?_; intro a72 hE e57 kp; apply Z03 60 hE k rfl rfl rfl rfl; case h =>
  simp [go_sem, ↓IntWalk.iteOmega, ev e57]
  with_reducible rfl
 intro a73 hE e60 kp; replace e57 := kt kp e57; apply Z03 61 hE k rfl rfl rfl rfl; case h =>
  simp [go_sem, ↓IntWalk.iteOmega, ev e57]
  with_reducible rfl
 intro a74 hE e61 kp; replace e60 := kt kp e60; refine Z4z O (cs := #[.int .i64 0, .slice none 0 0]) (t := 47) 12 hE k rfl (by rfl) (by rfl) rfl (by simp [go_sem, ↓IntWalk.iteOmega]) ?_
 clear O; intro lk a75 w76 RX O hE e12 kp; replace hk := Row.ext hk RX
 clear RX; replace e60 := kt kp e60; replace e61 := kt kp e61; have q0 : w76.cell? ⟨lk, 0, none⟩ = some (.int .i64 0) := (OwnT.blk O 0 rfl).cell 0
 have z0 : w76.frozen? ⟨lk, 0, none⟩ = false := (OwnT.blk O 0 rfl).frozen 0
 have q1 : w76.cell? ⟨lk, 1, none⟩ = some (.slice none 0 0) := (OwnT.blk O 0 rfl).cell 1
 have z1 : w76.frozen? ⟨lk, 1, none⟩ = false := (OwnT.blk O 0 rfl).frozen 1
 have hbr := OwnT.blk O 0 rfl
 refine Z2c (w' := ((w76.setCell ⟨lk, 0, none⟩ (.int .i64 0)).setCell ⟨lk, 1, none⟩ (.slice Bk 1 ck))) hE rfl rfl (by simp [go_sem, ↓IntWalk.iteOmega, ev e12, ev e60, q0, z0, q1, z1]) ?_
 replace O := OwnT.push 0 rfl (((OwnT.pull O 0 rfl).set 0 (.int .i64 0)).set 1 (.slice Bk 1 ck))
 replace hk := Z4m (v0 := .int .i64 0) (v1 := .slice Bk 1 ck) hk hbr
 clear hbr; clear q0 z0 q1 z1; generalize ((w76.setCell ⟨lk, 0, none⟩ (.int .i64 0)).setCell ⟨lk, 1, none⟩ (.slice Bk 1 ck)) = w77 at O hk ⊢
 replace O : OwnT _ _ ((tBlk lk 47 #[.int .i64 0, .slice Bk 1 ck]) :: _) w77 := O
 refine sd 13 hE k (Z01 rfl e61) ?_; intro a78 hE e13 kp; replace e12 := kt kp e12; refine wpList_nil ?_; replace e3 := hE.g e3; replace e5 := hE.g e5; replace e6 := hE.g e6; replace e7 := hE.g e7; replace e8 := hE.g e8; replace e9 := hE.g e9; replace e10 := hE.g e10; replace k := k.env hE; clear hE e56; refine Z00 ?_; have hy : Row w77 By 2 pairC (nodeP 5) := by obtain ⟨B9, c9, e9, -, -, h9, -⟩ := Z4c (OwnT.get O 13 rfl); cases e9; exact h9
 have hcnt : ((pgs 64 : Nat) : Int) - 1 - ((kL (pgs 64) K2).length : Nat) - ((fL (pgs 64) (fun _ => none)).length : Nat) = 2 := by rw [← hK2]; decide
 have hsu := OwnT.stR O.tail
 have hss := OwnT.stR O.tail.tail.tail.tail.tail.tail.tail
 have hdd := OwnT.disc (OwnT.pull O 5 rfl)
 refine wp_seq ?_; refine Z0l (R := Ext) (w0 := w77) [[], [0], [0, 1], [0, 1, 2], rg 4, rg 5, rg 6, rg 7, rg 8, rg 9, rg 10, rg 11, rg 11, rg 13, rg 14, rg 15, rg 16, rg 17, rg 18, rg 19, rg 20, rg 21, rg 22, rg 23, rg 24, rg 25, rg 26, rg 27, rg 28, rg 29, rg 30, rg 31, rg 32, rg 33, rg 34, rg 35, rg 36, rg 36, rg 38, rg 39, rg 40, rg 41, rg 42, rg 43, rg 44, rg 45, rg 46, rg 47, rg 48, rg 49, rg 50] [62, 63, 64, 65, 66, 67, 68, 69, 70, 71, 72, 73, 74, 75, 76, 77, 78, 79, 80, 81, 82, 83, 84, 85, 86, 87, 88, 89, 90, 91, 92, 93, 94, 95, 96, 97, 98, 99, 100, 101, 102, 103, 104, 105, 106, 107, 108, 109, 110, 111, 0] Ext.refl (fun _ _ _ => Ext.trans) (Ext.drew _) (by kernel_rfl) ?_
 refine bd 62 k rfl rfl rfl (fun ax wx hE hR hF => Z02 rfl (hE.g e5)) ?_
 refine bd 63 k rfl rfl rfl (fun ax wx hE hR hF => have e62 := zhF hF 0 62 ml0; Z08 (Z19 rfl e62 rfl) (decide_eq_true (by omega))) ?_
 refine bd 64 k rfl rfl rfl (fun ax wx hE hR hF => have e63 := zhF hF 1 63 ml0; Z02 rfl e63) ?_
 refine bdg 65 k rfl rfl rfl rfl (fun ax wx hE hR hF => have e64 := zhF hF 2 64 ml0; ⟨e64, Z02 rfl (hE.g e6)⟩) ?_
 refine bdg 66 k rfl rfl rfl rfl (fun ax wx hE hR hF => have e65 := zhF hF 3 65 ml0; have e64 := zhF hF 2 64 ml1; ⟨e64, Z08 (Z19 rfl e65 rfl) (decide_eq_true (by omega))⟩) ?_
 refine bd 67 k rfl rfl rfl (fun ax wx hE hR hF => have e64 := zhF hF 2 64 ml2; have e66 := zhF hF 4 66 ml0; Z0b rfl e64 e66) ?_
 refine bd 68 k rfl rfl rfl (fun ax wx hE hR hF => have e67 := zhF hF 5 67 ml0; Z02 rfl e67) ?_
 refine bdg 69 k rfl rfl rfl rfl (fun ax wx hE hR hF => have e68 := zhF hF 6 68 ml0; ⟨e68, Z02 rfl (hE.g e8)⟩) ?_
 refine bdg 70 k rfl rfl rfl rfl (fun ax wx hE hR hF => have e69 := zhF hF 7 69 ml0; have e68 := zhF hF 6 68 ml1; ⟨e68, Z08 (Z19 rfl e69 rfl) (decide_eq_true (by omega))⟩) ?_
 refine bd 71 k rfl rfl rfl (fun ax wx hE hR hF => have e68 := zhF hF 6 68 ml2; have e70 := zhF hF 8 70 ml0; Z0b rfl e68 e70) ?_
 refine bd 72 k rfl rfl rfl (fun ax wx hE hR hF => have e71 := zhF hF 9 71 ml0; Z02 rfl e71) ?_
 refine bdg 73 k rfl rfl rfl rfl (fun ax wx hE hR hF => have e72 := zhF hF 10 72 ml0; ⟨e72, Z1n (OwnT.ext O hR) 12 rfl rfl (hE.g e7) [.int .i64 0, .slice By 1 cy] rfl Tryz.underlying47 rfl (by kernel_rfl)⟩) ?_
 apply Build.callnewg 74 (fun v w => ∃ g, v = .agg #[.int .i64 0, .slice (some ⟨g, 0, none⟩) 1 1] ∧ Row w (some ⟨g, 0, none⟩) 2 pairC (nodeP 5)) (fun v w w' hR h => by obtain ⟨g, e, h⟩ := h; exact ⟨g, e, h.ext hR⟩) Ext.refl (by rfl) (by rw [k.size]; rfl) rfl rfl
 case h =>
  intro ax wx hE hR hF; have e72 := zhF hF 10 72 ml1; refine ⟨e72, ?_⟩; simp [go_sem, ↓IntWalk.iteOmega]
  with_reducible exact ⟨rfl, rfl⟩
 case hc => exact fun wx hR => (Z4p 5 wx).mono (fun e w' ⟨g, h1, h2, h3⟩ => ⟨_, h1, h3, g, rfl, h2⟩)
 apply Build.callxg 75 Ext.refl (by rfl) (by rw [k.size]; rfl) rfl rfl
 case h =>
  intro ax wx hE hR hF; have e73 := zhF hF 11 73 ml1; have f74 := hF 12 _ (by decide) ml0
  have e72 := zhF hF 10 72 ml2; refine ⟨e72, ?_⟩; obtain ⟨g9, e74, hg9⟩ := f74
  refine ⟨_, _, ?_, Z25 (cy := cy) (cz := 1) (a := 5) (hy.ext hR) hg9⟩
  simp [go_sem, ↓IntWalk.iteOmega, ev e73, ev e74]
 refine bd 76 k rfl rfl rfl (fun ax wx hE hR hF => have e72 := zhF hF 10 72 ml3; have e75 := zhF hF 13 75 ml0; Z0b rfl e72 e75) ?_
 refine bd 77 k rfl rfl rfl (fun ax wx hE hR hF => have e76 := zhF hF 14 76 ml0; Z02 rfl e76) ?_
 refine bdg 78 k rfl rfl rfl rfl (fun ax wx hE hR hF => have e77 := zhF hF 15 77 ml0; ⟨e77, Z02 rfl (hE.g e9)⟩) ?_
 refine bdg 79 k rfl rfl rfl rfl (fun ax wx hE hR hF => have e78 := zhF hF 16 78 ml0; have e77 := zhF hF 15 77 ml1; ⟨e77, Z08 (Z19 rfl e78 rfl) (decide_eq_true (by omega))⟩) ?_
 refine bd 80 k rfl rfl rfl (fun ax wx hE hR hF => have e77 := zhF hF 15 77 ml2; have e79 := zhF hF 17 79 ml0; Z0b rfl e77 e79) ?_
 refine bd 81 k rfl rfl rfl (fun ax wx hE hR hF => have e80 := zhF hF 18 80 ml0; Z02 rfl e80) ?_
 refine bdg 82 k rfl rfl rfl rfl (fun ax wx hE hR hF => have e81 := zhF hF 19 81 ml0; ⟨e81, Z02 rfl (hE.g e10)⟩) ?_
 apply Build.callg 83 Ext.refl (by rfl) (by rw [k.size]; rfl) rfl rfl
 case h =>
  intro ax wx hE hR hF; have e82 := zhF hF 20 82 ml0; have e81 := zhF hF 19 81 ml1; refine ⟨e81, ?_⟩; simp [go_sem, ↓IntWalk.iteOmega, ev e82]
  with_reducible exact ⟨rfl, rfl⟩
 case hc => intro wx hR; exact (show Calls _ _ _ _ (fun e w' => e = .returned (.agg #[.int .u64 2, .int .i64 1, .int .i64 9, .int .i64 3, .int .i64 2]) ∧ Ext wx w') from (Z52 wx (hsu.ext hR)).mono (fun e w' h => ⟨h.1.trans (rfl), h.2⟩))
 apply bdg 84 k rfl rfl rfl rfl; case h =>
  intro ax wx hE hR hF; have e83 := zhF hF 21 83 ml0; have e81 := zhF hF 19 81 ml2; refine ⟨e81, ?_⟩; simp [go_sem, ↓IntWalk.iteOmega, ev e83, fld_gen]
  with_reducible rfl
 refine bdg 85 k rfl rfl rfl rfl (fun ax wx hE hR hF => have e84 := zhF hF 22 84 ml0; have e81 := zhF hF 19 81 ml3; ⟨e81, Z08 (Z19 rfl e84 rfl) (decide_eq_true rfl)⟩) ?_
 refine bd 86 k rfl rfl rfl (fun ax wx hE hR hF => have e81 := zhF hF 19 81 ml4; have e85 := zhF hF 23 85 ml0; Z0b rfl e81 e85) ?_
 refine bd 87 k rfl rfl rfl (fun ax wx hE hR hF => have e86 := zhF hF 24 86 ml0; Z02 rfl e86) ?_
 refine bdg 88 k rfl rfl rfl rfl (fun ax wx hE hR hF => have e87 := zhF hF 25 87 ml0; ⟨e87, Z02 rfl (hE.g e10)⟩) ?_
 apply Build.callg 89 Ext.refl (by rfl) (by rw [k.size]; rfl) rfl rfl
 case h =>
  intro ax wx hE hR hF; have e88 := zhF hF 26 88 ml0; have e87 := zhF hF 25 87 ml1; refine ⟨e87, ?_⟩; simp [go_sem, ↓IntWalk.iteOmega, ev e88]
  with_reducible exact ⟨rfl, rfl⟩
 case hc => intro wx hR; exact (show Calls _ _ _ _ (fun e w' => e = .returned (.agg #[.int .u64 2, .int .i64 1, .int .i64 9, .int .i64 3, .int .i64 2]) ∧ Ext wx w') from (Z52 wx (hsu.ext hR)).mono (fun e w' h => ⟨h.1.trans (rfl), h.2⟩))
 apply bdg 90 k rfl rfl rfl rfl; case h =>
  intro ax wx hE hR hF; have e89 := zhF hF 27 89 ml0; have e87 := zhF hF 25 87 ml2; refine ⟨e87, ?_⟩; simp [go_sem, ↓IntWalk.iteOmega, ev e89, fld_root]
  with_reducible rfl
 refine bdg 91 k rfl rfl rfl rfl (fun ax wx hE hR hF => have e90 := zhF hF 28 90 ml0; have e87 := zhF hF 25 87 ml3; ⟨e87, Z08 (Z19 rfl e90 rfl) (decide_eq_true rfl)⟩) ?_
 refine bd 92 k rfl rfl rfl (fun ax wx hE hR hF => have e87 := zhF hF 25 87 ml4; have e91 := zhF hF 29 91 ml0; Z0b rfl e87 e91) ?_
 refine bd 93 k rfl rfl rfl (fun ax wx hE hR hF => have e92 := zhF hF 30 92 ml0; Z02 rfl e92) ?_
 refine bdg 94 k rfl rfl rfl rfl (fun ax wx hE hR hF => have e93 := zhF hF 31 93 ml0; ⟨e93, Z02 rfl (hE.g e13)⟩) ?_
 refine bdg 95 k rfl rfl rfl rfl (fun ax wx hE hR hF => have e94 := zhF hF 32 94 ml0; have e93 := zhF hF 31 93 ml1; ⟨e93, Z08 (Z19 rfl e94 rfl) (decide_eq_true (by omega))⟩) ?_
 refine bd 96 k rfl rfl rfl (fun ax wx hE hR hF => have e93 := zhF hF 31 93 ml2; have e95 := zhF hF 33 95 ml0; Z0b rfl e93 e95) ?_
 refine bd 97 k rfl rfl rfl (fun ax wx hE hR hF => have e96 := zhF hF 34 96 ml0; Z02 rfl e96) ?_
 refine bdg 98 k rfl rfl rfl rfl (fun ax wx hE hR hF => have e97 := zhF hF 35 97 ml0; ⟨e97, Z1n (OwnT.ext O hR) 0 rfl rfl (hE.g e12) [.int .i64 0, .slice Bk 1 ck] rfl Tryz.underlying47 rfl (by kernel_rfl)⟩) ?_
 apply Build.callnewg 99 (fun v w => ∃ g, v = .agg #[.int .i64 0, .slice (some ⟨g, 0, none⟩) 1 1] ∧ Row w (some ⟨g, 0, none⟩) 2 pairC (nodeP 5)) (fun v w w' hR h => by obtain ⟨g, e, h⟩ := h; exact ⟨g, e, h.ext hR⟩) Ext.refl (by rfl) (by rw [k.size]; rfl) rfl rfl
 case h =>
  intro ax wx hE hR hF; have e97 := zhF hF 35 97 ml1; refine ⟨e97, ?_⟩; simp [go_sem, ↓IntWalk.iteOmega]
  with_reducible exact ⟨rfl, rfl⟩
 case hc => exact fun wx hR => (Z4p 5 wx).mono (fun e w' ⟨g, h1, h2, h3⟩ => ⟨_, h1, h3, g, rfl, h2⟩)
 apply Build.callxg 100 Ext.refl (by rfl) (by rw [k.size]; rfl) rfl rfl
 case h =>
  intro ax wx hE hR hF; have e98 := zhF hF 36 98 ml1; have f99 := hF 37 _ (by decide) ml0
  have e97 := zhF hF 35 97 ml2; refine ⟨e97, ?_⟩; obtain ⟨g9, e99, hg9⟩ := f99
  refine ⟨_, _, ?_, Z25 (cy := ck) (cz := 1) (a := 5) (hk.ext hR) hg9⟩
  simp [go_sem, ↓IntWalk.iteOmega, ev e98, ev e99]
 refine bd 101 k rfl rfl rfl (fun ax wx hE hR hF => have e97 := zhF hF 35 97 ml3; have e100 := zhF hF 38 100 ml0; Z0b rfl e97 e100) ?_
 refine bd 102 k rfl rfl rfl (fun ax wx hE hR hF => have e101 := zhF hF 39 101 ml0; Z02 rfl e101) ?_
 refine bdg 103 k rfl rfl rfl rfl (fun ax wx hE hR hF => have e102 := zhF hF 40 102 ml0; ⟨e102, Z02 rfl (hE.g e3)⟩) ?_
 apply Build.callg 104 Ext.refl (by rfl) (by rw [k.size]; rfl) rfl rfl
 case h =>
  intro ax wx hE hR hF; have e103 := zhF hF 41 103 ml0; have e102 := zhF hF 40 102 ml1; refine ⟨e102, ?_⟩; simp [go_sem, ↓IntWalk.iteOmega, ev e103]
  with_reducible exact ⟨rfl, rfl⟩
 case hc => intro wx hR; exact (show Calls _ _ _ _ (fun e w' => e = .returned (.int .i64 4) ∧ Ext wx w') from ((Z1p wx (hss.ext hR) (hdd.ext hR)).mono (fun e w' h => (⟨h.1, h.2 ▸ Ext.refl _⟩ : _ ∧ Ext wx w'))).mono (fun e w' h => ⟨h.1.trans (rfl), h.2⟩))
 refine bdg 105 k rfl rfl rfl rfl (fun ax wx hE hR hF => have e104 := zhF hF 42 104 ml0; have e102 := zhF hF 40 102 ml2; ⟨e102, Z08 (Z19 rfl e104 rfl) (decide_eq_true (by omega))⟩) ?_
 refine bd 106 k rfl rfl rfl (fun ax wx hE hR hF => have e102 := zhF hF 40 102 ml3; have e105 := zhF hF 43 105 ml0; Z0b rfl e102 e105) ?_
 refine bd 107 k rfl rfl rfl (fun ax wx hE hR hF => have e106 := zhF hF 44 106 ml0; Z02 rfl e106) ?_
 refine bdg 108 k rfl rfl rfl rfl (fun ax wx hE hR hF => have e107 := zhF hF 45 107 ml0; ⟨e107, Z02 rfl (hE.g e3)⟩) ?_
 apply Build.callg 109 Ext.refl (by rfl) (by rw [k.size]; rfl) rfl rfl
 case h =>
  intro ax wx hE hR hF; have e108 := zhF hF 46 108 ml0; have e107 := zhF hF 45 107 ml1; refine ⟨e107, ?_⟩; simp [go_sem, ↓IntWalk.iteOmega, ev e108]
  with_reducible exact ⟨rfl, rfl⟩
 case hc => intro wx hR; exact (show Calls _ _ _ _ (fun e w' => e = .returned (.int .i64 2) ∧ Ext wx w') from (Z5x wx (hss.ext hR) (hdd.ext hR) ok2 rfl).mono (fun e w' h => ⟨h.1.trans (congrArg (fun z => Ending.returned (Value.int .i64 z)) hcnt), h.2⟩))
 refine bdg 110 k rfl rfl rfl rfl (fun ax wx hE hR hF => have e109 := zhF hF 47 109 ml0; have e107 := zhF hF 45 107 ml2; ⟨e107, Z08 (Z19 rfl e109 rfl) (decide_eq_true (by omega))⟩) ?_
 refine bd 111 k rfl rfl rfl (fun ax wx hE hR hF => have e107 := zhF hF 45 107 ml3; have e110 := zhF hF 48 110 ml0; Z0b rfl e107 e110) ?_
 refine bd 0 k rfl rfl rfl (fun ax wx hE hR hF => have e111 := zhF hF 49 111 ml0; Z01 rfl e111) ?_
 apply Build.stop
 refine ⟨by kernel_rfl, .inl ⟨rfl, ?_⟩⟩
 intro a79 w80 hE R hF; have e0 : a79.eval (.tmp 0) = _ := hF 50 (det 0 _) ml0
 clear hF; replace O := OwnT.ext O R; replace hk := Row.ext hk R
 clear R; replace k := k.env hE; clear hE e3 e5 e6 e7 e8 e9 e10 e12 e13; refine Z00 ?_; refine wp_ret ?_
 refine Z0k rfl k e0 ?_
 exact ⟨rfl, O.below⟩
end Go.Proofs.YtakkhglbdljfiaaGreatDoor
