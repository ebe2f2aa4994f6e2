/- HeatOrder: its walk. -/
import Derived.Test.YtojilbacloegjaaKHeatOrder06
import Derived.Test.YtojilbacloegjaaKHeatOrder04
import Derived.Deep.CutBlock
namespace Go.Proofs.Ytojilbacloegjaa
set_option linter.unusedVariables false
set_option linter.unusedSimpArgs false
open Go.RowKit Go.Maps Go.ChangeShapes Go.WideShapes Go.ChangeAt

def tv (x n : Int) : Int := if n ≤ 0 then x else min (x + min n 1048576) 1048576
theorem touch_tv (u : Int → Int) (c n i : Int) : touchU u c n i = if i = c ∧ 1 ≤ c ∧ c ≤ 1023 then tv (u i) n else u i := by
  unfold touchU tv updU
  by_cases h : c < 1 ∨ 1023 < c ∨ n ≤ 0
  · rw [if_pos h]
    by_cases h2 : i = c ∧ 1 ≤ c ∧ c ≤ 1023
    · rw [if_pos h2, if_pos (by omega)]
    · rw [if_neg h2]
  · rw [if_neg h]
    by_cases h2 : i = c
    · subst h2
      rw [if_pos (show i = i ∧ 1 ≤ i ∧ i ≤ 1023 from ⟨rfl, by omega, by omega⟩), if_neg (show ¬ n ≤ 0 by omega)]
      simp
    · rw [if_neg (show ¬ (i = c ∧ 1 ≤ c ∧ c ≤ 1023) from fun h => h2 h.1)]
      simp [h2]
theorem tv_comm (x n m : Int) : tv (tv x n) m = tv (tv x m) n := by unfold tv; split <;> split <;> omega
theorem touch_comm (u : Int → Int) (x y : Int × Int) : touchU (touchU u x.1 x.2) y.1 y.2 = touchU (touchU u y.1 y.2) x.1 x.2 := by
  funext i
  rw [touch_tv, touch_tv u, touch_tv, touch_tv u]
  by_cases h1 : i = y.1 ∧ 1 ≤ y.1 ∧ y.1 ≤ 1023
  · by_cases h2 : i = x.1 ∧ 1 ≤ x.1 ∧ x.1 ≤ 1023
    · rw [if_pos h1, if_pos h2, if_pos h2, if_pos h1, tv_comm]
    · rw [if_pos h1, if_neg h2, if_neg h2, if_pos h1]
  · by_cases h2 : i = x.1 ∧ 1 ≤ x.1 ∧ x.1 ≤ 1023
    · rw [if_neg h1, if_pos h2, if_pos h2, if_neg h1]
    · rw [if_neg h1, if_neg h2, if_neg h2, if_neg h1]
def touches (L : List (Int × Int)) : Int → Int := L.foldl (fun u x => touchU u x.1 x.2) (fun _ => 0)
theorem touches_snoc (L : List (Int × Int)) (x : Int × Int) : touches (L ++ [x]) = touchU (touches L) x.1 x.2 := by unfold touches; rw [List.foldl_append]; rfl
theorem touches_rev (L : List (Int × Int)) : touches L.reverse = touches L :=
  (List.reverse_perm L).foldl_eq' (fun x _ y _ u => touch_comm u x y) _
theorem touches_heats : ∀ L : List (Int × Int), Heats (touches L) := by
  intro L
  suffices h : ∀ (L : List (Int × Int)) (u : Int → Int), Heats u → Heats (L.foldl (fun u x => touchU u x.1 x.2) u) from h L _ Heats.zero
  intro L
  induction L with
  | nil => intro u h; exact h
  | cons x L ih => intro u h; exact ih _ (h.touch x.1 x.2)
/-- The chunk of a number, the deeds. -/
def chk (x : Int) : Int := 1 + (IntKind.u64.wrap x) % 20
def deeds (xs ys : List Int) (n : Nat) : List (Int × Int) := (List.range n).map fun i => (chk (xs.getD i 0), ys.getD i 0)
theorem deeds_succ (xs ys : List Int) (n : Nat) : deeds xs ys (n + 1) = deeds xs ys n ++ [(chk (xs.getD n 0), ys.getD n 0)] := by
  unfold deeds
  rw [List.range_succ, List.map_append]
  rfl
theorem deeds_rev (xs ys : List Int) (n k : Nat) (h : k < n) : (deeds xs ys n).reverse.take (k + 1) = (deeds xs ys n).reverse.take k ++ [(chk (xs.getD (n - 1 - k) 0), ys.getD (n - 1 - k) 0)] := by
  have hl : (deeds xs ys n).length = n := by simp [deeds]
  rw [List.take_add_one, List.getElem?_reverse (by omega), hl]
  congr 1
  unfold deeds
  rw [List.getElem?_map, List.getElem?_range (by omega)]
  rfl
theorem chk_facts (x : Int) : ∃ y, IntKind.u64.wrap x = y ∧ 0 ≤ y ∧ y ≤ 18446744073709551615 ∧ y.tmod 20 = y % 20 ∧ IntKind.u64.wrap (y % 20) = y % 20 ∧ IntKind.i64.wrap (y % 20) = y % 20 ∧ IntKind.i64.wrap (1 + y % 20) = 1 + y % 20 ∧ chk x = 1 + y % 20 := by
  have h : 0 ≤ IntKind.u64.wrap x ∧ IntKind.u64.wrap x ≤ 18446744073709551615 := by
    simp only [IntKind.wrap, IntKind.bits, IntKind.signed]
    simp
    omega
  exact ⟨_, rfl, h.1, h.2, Int.tmod_eq_emod_of_nonneg h.1, IntWalk.u64_in _ (by omega), IntWalk.i64_in _ (by omega), IntWalk.i64_in _ (by omega), rfl⟩

theorem dec_facts (x : Int) : ∃ y, IntKind.u64.wrap x = y ∧ 0 ≤ y ∧ y ≤ 18446744073709551615 ∧ y.tmod 6 = y % 6 ∧ IntKind.u64.wrap (y % 6) = y % 6 ∧ IntKind.i64.wrap (y % 6) = y % 6 ∧ y % 6 ≤ 5 := by
  have h : 0 ≤ IntKind.u64.wrap x ∧ IntKind.u64.wrap x ≤ 18446744073709551615 := by
    simp only [IntKind.wrap, IntKind.bits, IntKind.signed]
    simp
    omega
  exact ⟨_, rfl, h.1, h.2, Int.tmod_eq_emod_of_nonneg h.1, IntWalk.u64_in _ (by omega), IntWalk.i64_in _ (by omega), by omega⟩
theorem zero22 : ∃ Z : Array Value, (∀ w, (zeroValue 54).run Try.prog w = .ok (.agg Z) w) ∧ Z.size = 22 ∧ (∀ i : Nat, i < 22 → Z[i]? = some (.int .i64 0)) ∧ Z.all (·.oneCell') = true :=
  ⟨Array.replicate 22 (.int .i64 0), fun _ => by kernel_rfl, Array.size_replicate, (fun i hi => by rw [Array.getElem?_replicate, if_pos hi]), by decide +kernel⟩
def AR (w : World) (g : Nat) (f : Int → Int) : Prop := ∃ cs : Array Value, Blk w g 54 cs ∧ cs.size = 22 ∧ ∀ i : Nat, i < 22 → cs[i]? = some (.int .i64 (f i))
section
variable {w : World} {g : Nat} {u : Int → Int}
theorem AR.cell (h : AR w g u) {k : Nat} (hk : k < 22) : w.cell? ⟨g, k, none⟩ = some (.int .i64 (u k)) := by
  obtain ⟨cs, h1, _, h2⟩ := h
  rw [h1.cell, h2 k hk]
theorem AR.frozen (h : AR w g u) (k : Nat) : w.frozen? ⟨g, k, none⟩ = false := by
  obtain ⟨cs, h1, _, h2⟩ := h
  exact h1.frozen k
theorem AR.set (h : AR w g u) {k : Nat} (hk : k < 22) (v : Int) : AR (w.setCell ⟨g, k, none⟩ (.int .i64 v)) g (updU u k v) := by
  obtain ⟨cs, h1, h2, h3⟩ := h
  refine ⟨_, h1.set_ k _, by simp [h2], fun i hi => ?_⟩
  unfold updU
  rw [Array.getElem?_setIfInBounds]
  by_cases e : k = i
  · subst e
    simp [h2, hi]
  · rw [if_neg e, if_neg (by omega), h3 i hi]
end
def tArr (g : Nat) (u : Int → Int) : Thing where
  foot := [g]
  holds := fun w => AR w g u
  keep := fun w w' hs h hb => by
    obtain ⟨cs, h1, h2⟩ := hb
    exact ⟨cs, (h g (by simp)).trans h1, h2⟩
  lt := fun w h i hi => by
    simp at hi
    subst hi
    obtain ⟨cs, h1, h2⟩ := h
    exact h1.lt
theorem OwnT.arr {H : Nat} {A w : World} {L : List Thing} {g : Nat} {u : Int → Int} (h : OwnT H A (tArr g u :: L) w) : AR w g u := h.all.1
def wasTo (u : Int → Int) (c : Nat) : Int → Int := fun i => if 1 ≤ i ∧ i < c then u i else 0
theorem wasTo_step {u : Int → Int} {c : Nat} (hc : 1 ≤ c) : updU (wasTo u c) c (u c) = wasTo u (c + 1) := by
  funext i
  unfold updU wasTo
  by_cases e : i = (c : Int)
  · subst e
    rw [if_pos rfl, if_pos (by omega)]
  · rw [if_neg e]
    by_cases h : 1 ≤ i ∧ i < (c : Int)
    · rw [if_pos h, if_pos (by omega)]
    · rw [if_neg h, if_neg (by omega)]
def Same2 (w : World) (pa ma pb mb n : Nat) (wx : World) : Prop := ∃ u : Int → Int, OwnT w.heap.size w [tBook pb mb n u, tBook pa ma n u] wx ∧ Heats u
theorem run_min3 (ats : Array TypeId) (ty : TypeId) (a b c : Int) (w : World) : (Builtin.min_ ats ty #[.int .i64 a, .int .i64 b, .int .i64 c]).run Try.prog w = .ok (.int .i64 (if c < (if b < a then b else a) then c else (if b < a then b else a))) w := by
  simp [Builtin.min_, Builtin.min2, List.foldlM]
set_option maxRecDepth 100000 in
set_option maxHeartbeats 4000000 in
theorem heatOrder_core (A A' : Option Addr) (len cap len' cap' : Nat) (xs ys : List Int) (d : Int) (w : World) (hlen : xs.length = len) (hlen' : ys.length = len') (hrow : Row1 w A (Value.int .i64) xs) (hrow' : Row1 w A' (Value.int .i64) ys)
    (hw : ∀ x ∈ xs, wfI x) (hw' : ∀ x ∈ ys, wfI x) (hm : len ≤ maxLen) (hm' : len' ≤ maxLen) (hd : wfI d) :
    Calls Try.prog 5 #[.slice A len cap, .slice A' len' cap', .int .i64 d] w fun e w' => e = .returned (.bool true) ∧ Below w.heap.size w w' := by
  unfold maxLen at hm hm'
  have Hlen := Lib.hid hlen
  have Hlen' := Lib.hid hlen'
  have Hw := Lib.hid hw
  have Hw' := Lib.hid hw'
  have Hrow := Lib.hid hrow
  have Hrow' := Lib.hid hrow'
  have hdb := bounds_i64 hd
  clear hlen hlen' hw hw' hrow hrow' hd
  go_enter Try.func5, Try.ntmps5
  go_wp2_with fail
  refine (awake15 _).mono ?_
  rintro e w1 ⟨rfl, hx1⟩
  have HO1 := Lib.hid ((OwnT.start w).ext hx1)
  clear hx1
  go_wp2_with fail
  refine (new_any _).mono ?_
  rintro e w2 ⟨rfl, hx2, hB2⟩
  have HO2 := Lib.hid (HO1.out.newBook hx2 hB2)
  clear hx2 hB2 HO1
  generalize w1.heap.size + 1 = pa at HO2 ⊢
  generalize w1.heap.size = ma at HO2
  go_wp2_with fail
  refine (new_any _).mono ?_
  rintro e w3 ⟨rfl, hx3, hB3⟩
  have O3 := HO2.out.newBook hx3 hB3
  clear hx3 hB3 HO2
  generalize w2.heap.size + 1 = pb at O3 ⊢
  generalize w2.heap.size = mb at O3
  obtain ⟨n, hn⟩ : ∃ n : Nat, min (min len len') 60 = n := ⟨_, rfl⟩
  have hmin : (if (60 : Int) < (if (len' : Int) < (len : Int) then (len' : Int) else (len : Int)) then 60 else (if (len' : Int) < (len : Int) then (len' : Int) else (len : Int))) = (n : Int) := by
    by_cases h : (len' : Int) < (len : Int)
    · simp only [if_pos h]
      split <;> omega
    · simp only [if_neg h]
      split <;> omega
  have hmn : ∀ W : World, (Builtin.min_ #[3, 3, 3] 3 #[.int .i64 (len : Int), .int .i64 (len' : Int), .int .i64 60]).run Try.prog W = .ok (.int .i64 (n : Int)) W := fun W => by
    rw [run_min3, hmin]
  clear hmin
  have hn1 : n ≤ len := by omega
  have hn2 : n ≤ len' := by omega
  have hn3 : n ≤ 60 := by omega
  clear hn
  have hJ : ∃ k : Nat, k ≤ n ∧ (Value.int .i64 0 = .int .i64 k) ∧ OwnT w.heap.size w [tBook pb mb k (touches ((deeds xs ys n).reverse.take k)), tBook pa ma k (touches (deeds xs ys k))] w3 := ⟨0, by omega, rfl, O3⟩
  clear O3
  go_upto_block 0 with fail
  clear hmn
  go_cut [] (fun wx => OwnT w.heap.size w [tBook pb mb n (touches ((deeds xs ys n).reverse.take n)), tBook pa ma n (touches (deeds xs ys n))] wx)
  case first =>
    go_wp2_with fail
    go_loopw [10] (fun i wr => ∃ k : Nat, k ≤ n ∧ i = .int .i64 k ∧ OwnT w.heap.size w [tBook pb mb k (touches ((deeds xs ys n).reverse.take k)), tBook pa ma k (touches (deeds xs ys k))] wr) (fun i _ => n - (intOf i).toNat)
    case atStart => exact hJ
    case round =>
      obtain ⟨k, hk, rfl, O⟩ := hrel
      clear hJ
      by_cases hlt : k < n
      · have HO := Lib.hid O
        clear O
        have hnx := deeds_succ xs ys k
        have hnr := deeds_rev xs ys n k hlt
        obtain ⟨j, hj⟩ : ∃ j : Nat, n - 1 - k = j := ⟨_, rfl⟩
        rw [hj] at hnr
        have hwj : IntKind.i64.wrap ((n : Int) - 1 - (k : Int)) = (j : Int) := by rw [IntWalk.i64_in _ (by omega)]; omega
        have hwn : IntKind.i64.wrap ((n : Int) - 1) = (n : Int) - 1 := IntWalk.i64_in _ (by omega)
        have hjn : j < n := by omega
        have hXw := HO.out.below
        obtain ⟨b, off, rfl, hbl, hc⟩ := Hrow.out.in_ hXw (i := k) (by have := Hlen.out; omega)
        obtain ⟨b', off', rfl, hbl', hc'⟩ := Hrow'.out.in_ hXw (i := k) (by have := Hlen'.out; omega)
        have gX : xs.getD k 0 = xs[k]'(by have := Hlen.out; omega) := by rw [List.getD_eq_getElem?_getD, List.getElem?_eq_getElem (by have := Hlen.out; omega)]; rfl
        have gY : ys.getD k 0 = ys[k]'(by have := Hlen'.out; omega) := by rw [List.getD_eq_getElem?_getD, List.getElem?_eq_getElem (by have := Hlen'.out; omega)]; rfl
        have wY := Hw'.out (ys[k]'(by have := Hlen'.out; omega)) (List.getElem_mem _)
        rw [← gX] at hc
        rw [← gY] at hc' wY
        obtain ⟨y, y1, y2, y3, y4, y5, y6, y7, y8⟩ := chk_facts (xs.getD k 0)
        rw [y8] at hnx
        generalize xs.getD k 0 = x at hc y1 hnx
        generalize ys.getD k 0 = z at hc' wY hnx
        have HN := Lib.hid (And.intro hnx hnr)
        have HC := Lib.hid (And.intro hc (And.intro hc' wY))
        clear hnx hnr hc hc' wY gX gY y8 hXw
        go_upto_region 9 with fail
        refine wp_typed (R := Ext) (w0 := wr) [[], [], [], [1, 2], [1, 2, 3], [1, 2, 3, 4], [1, 2, 3, 4, 5], [1, 2, 3, 4, 5, 6], [1, 2, 3, 4, 5, 6, 7], [], [], [9, 10], [9, 10, 11], [0, 1, 2, 3, 4, 5, 6, 7, 8, 9, 10, 11, 12]] [30, 31, 32, 33, 34, 35, 36, 37, 38, 39, 40, 41, 42] Ext.refl (fun _ _ _ => Ext.trans) (Ext.drew _) (by kernel_rfl) ?_
        apply Build.det 30 Ext.refl (by rfl) (by rfl) rfl
        case h =>   -- 0: t30 := Op.move (tmp 7)
          intro ax wx hE hR hF
          have e7 : ax.eval (.tmp 7) = .pointer (some ⟨pa, 0, none⟩) := hE.eval 7 (by rfl) rfl
          simp [go_sem, BigFrame.eval_const, BigFrame.eval_global, BigFrame.eval_func, ↓IntWalk.iteOmega, ev e7, y1, y3, y4, y5, y6]
          with_reducible rfl
        apply Build.det 31 Ext.refl (by rfl) (by rfl) rfl
        case h =>   -- 1: t31 := Op.move (tmp 0)
          intro ax wx hE hR hF
          have e0 : ax.eval (.tmp 0) = .slice (some ⟨b, off, none⟩) len cap := hE.eval 0 (by rfl) rfl
          simp [go_sem, BigFrame.eval_const, BigFrame.eval_global, BigFrame.eval_func, ↓IntWalk.iteOmega, ev e0, y1, y3, y4, y5, y6]
          with_reducible rfl
        apply Build.det 32 Ext.refl (by rfl) (by rfl) rfl
        case h =>   -- 2: t32 := Op.move (tmp 10)
          intro ax wx hE hR hF
          have e10 : ax.eval (.tmp 10) = .int .i64 k := hE.eval 10 (by rfl) rfl
          simp [go_sem, BigFrame.eval_const, BigFrame.eval_global, BigFrame.eval_func, ↓IntWalk.iteOmega, ev e10, y1, y3, y4, y5, y6]
          with_reducible rfl
        apply Build.det 33 Ext.refl (by rfl) (by rfl) rfl
        case h =>   -- 3: t33 := Op.indexAddr 41 (tmp 31) (tmp 32)
          intro ax wx hE hR hF
          have e31 : ax.eval (.tmp 31) = _ := hF 1 (det 31 _) (by decide) (.tail _ (.head _))
          have e32 : ax.eval (.tmp 32) = _ := hF 2 (det 32 _) (by decide) (.head _)
          simp [go_sem, BigFrame.eval_const, BigFrame.eval_global, BigFrame.eval_func, ↓IntWalk.iteOmega, ev e31, ev e32, y1, y3, y4, y5, y6]
          with_reducible rfl
        apply Build.det 34 Ext.refl (by rfl) (by rfl) rfl
        case h =>   -- 4: t34 := Op.load 3 (tmp 33)
          intro ax wx hE hR hF
          have e33 : ax.eval (.tmp 33) = _ := hF 3 (det 33 _) (by decide) (.head _)
          have hX := (hR.cell (p := ⟨b, off + k, none⟩) (Nat.lt_of_lt_of_le hbl HO.out.below.size)).trans HC.out.1; have hY := (hR.cell (p := ⟨b', off' + k, none⟩) (Nat.lt_of_lt_of_le hbl' HO.out.below.size)).trans HC.out.2.1
          simp [go_sem, BigFrame.eval_const, BigFrame.eval_global, BigFrame.eval_func, ↓IntWalk.iteOmega, ev e33, y1, y3, y4, y5, y6, hX, hY]
          with_reducible rfl
        apply Build.det 35 Ext.refl (by rfl) (by rfl) rfl
        case h =>   -- 5: t35 := Op.convert 3 49 (tmp 34)
          intro ax wx hE hR hF
          have e34 : ax.eval (.tmp 34) = _ := hF 4 (det 34 _) (by decide) (.head _)
          simp [go_sem, BigFrame.eval_const, BigFrame.eval_global, BigFrame.eval_func, ↓IntWalk.iteOmega, ev e34, y1, y3, y4, y5, y6]
          with_reducible rfl
        apply Build.det 36 Ext.refl (by rfl) (by rfl) rfl
        case h =>   -- 6: t36 := Op.binOp BinOp.rem 49 (tmp 35) (const (Value.int IntKind.u64 20)) 49
          intro ax wx hE hR hF
          have e35 : ax.eval (.tmp 35) = _ := hF 5 (det 35 _) (by decide) (.head _)
          simp [go_sem, BigFrame.eval_const, BigFrame.eval_global, BigFrame.eval_func, ↓IntWalk.iteOmega, ev e35, y1, y3, y4, y5, y6]
          with_reducible rfl
        apply Build.det 37 Ext.refl (by rfl) (by rfl) rfl
        case h =>   -- 7: t37 := Op.convert 49 3 (tmp 36)
          intro ax wx hE hR hF
          have e36 : ax.eval (.tmp 36) = _ := hF 6 (det 36 _) (by decide) (.head _)
          simp [go_sem, BigFrame.eval_const, BigFrame.eval_global, BigFrame.eval_func, ↓IntWalk.iteOmega, ev e36, y1, y3, y4, y5, y6]
          with_reducible rfl
        apply Build.det 38 Ext.refl (by rfl) (by rfl) rfl
        case h =>   -- 8: t38 := Op.binOp BinOp.add 3 (const (Value.int IntKind.i64 1)) (tmp 37) 3
          intro ax wx hE hR hF
          have e37 : ax.eval (.tmp 37) = _ := hF 7 (det 37 _) (by decide) (.head _)
          simp [go_sem, BigFrame.eval_const, BigFrame.eval_global, BigFrame.eval_func, ↓IntWalk.iteOmega, ev e37, y1, y3, y4, y5, y6]
          with_reducible rfl
        apply Build.det 39 Ext.refl (by rfl) (by rfl) rfl
        case h =>   -- 9: t39 := Op.move (tmp 1)
          intro ax wx hE hR hF
          have e1 : ax.eval (.tmp 1) = .slice (some ⟨b', off', none⟩) len' cap' := hE.eval 1 (by rfl) rfl
          simp [go_sem, BigFrame.eval_const, BigFrame.eval_global, BigFrame.eval_func, ↓IntWalk.iteOmega, ev e1, y1, y3, y4, y5, y6]
          with_reducible rfl
        apply Build.det 40 Ext.refl (by rfl) (by rfl) rfl
        case h =>   -- 10: t40 := Op.move (tmp 10)
          intro ax wx hE hR hF
          have e10 : ax.eval (.tmp 10) = .int .i64 k := hE.eval 10 (by rfl) rfl
          simp [go_sem, BigFrame.eval_const, BigFrame.eval_global, BigFrame.eval_func, ↓IntWalk.iteOmega, ev e10, y1, y3, y4, y5, y6]
          with_reducible rfl
        apply Build.det 41 Ext.refl (by rfl) (by rfl) rfl
        case h =>   -- 11: t41 := Op.indexAddr 41 (tmp 39) (tmp 40)
          intro ax wx hE hR hF
          have e39 : ax.eval (.tmp 39) = _ := hF 9 (det 39 _) (by decide) (.tail _ (.head _))
          have e40 : ax.eval (.tmp 40) = _ := hF 10 (det 40 _) (by decide) (.head _)
          simp [go_sem, BigFrame.eval_const, BigFrame.eval_global, BigFrame.eval_func, ↓IntWalk.iteOmega, ev e39, ev e40, y1, y3, y4, y5, y6]
          with_reducible rfl
        apply Build.det 42 Ext.refl (by rfl) (by rfl) rfl
        case h =>   -- 12: t42 := Op.load 3 (tmp 41)
          intro ax wx hE hR hF
          have e41 : ax.eval (.tmp 41) = _ := hF 11 (det 41 _) (by decide) (.head _)
          have hX := (hR.cell (p := ⟨b, off + k, none⟩) (Nat.lt_of_lt_of_le hbl HO.out.below.size)).trans HC.out.1; have hY := (hR.cell (p := ⟨b', off' + k, none⟩) (Nat.lt_of_lt_of_le hbl' HO.out.below.size)).trans HC.out.2.1
          simp [go_sem, BigFrame.eval_const, BigFrame.eval_global, BigFrame.eval_func, ↓IntWalk.iteOmega, ev e41, y1, y3, y4, y5, y6, hX, hY]
          with_reducible rfl
        apply Build.stop
        refine ⟨by kernel_rfl, .inr ⟨by kernel_rfl, _, rfl, rfl, ?_⟩⟩
        intro ax w4 hE R4 hF
        have e30 : ax.eval (.tmp 30) = _ := hF 0 (det 30 _) (.tail _ (.tail _ (.tail _ (.tail _ (.tail _ (.tail _ (.tail _ (.tail _ (.tail _ (.tail _ (.tail _ (.tail _ (.head _)))))))))))))
        have e31 : ax.eval (.tmp 31) = _ := hF 1 (det 31 _) (.tail _ (.tail _ (.tail _ (.tail _ (.tail _ (.tail _ (.tail _ (.tail _ (.tail _ (.tail _ (.tail _ (.head _))))))))))))
        have e32 : ax.eval (.tmp 32) = _ := hF 2 (det 32 _) (.tail _ (.tail _ (.tail _ (.tail _ (.tail _ (.tail _ (.tail _ (.tail _ (.tail _ (.tail _ (.head _)))))))))))
        have e33 : ax.eval (.tmp 33) = _ := hF 3 (det 33 _) (.tail _ (.tail _ (.tail _ (.tail _ (.tail _ (.tail _ (.tail _ (.tail _ (.tail _ (.head _))))))))))
        have e34 : ax.eval (.tmp 34) = _ := hF 4 (det 34 _) (.tail _ (.tail _ (.tail _ (.tail _ (.tail _ (.tail _ (.tail _ (.tail _ (.head _)))))))))
        have e35 : ax.eval (.tmp 35) = _ := hF 5 (det 35 _) (.tail _ (.tail _ (.tail _ (.tail _ (.tail _ (.tail _ (.tail _ (.head _))))))))
        have e36 : ax.eval (.tmp 36) = _ := hF 6 (det 36 _) (.tail _ (.tail _ (.tail _ (.tail _ (.tail _ (.tail _ (.head _)))))))
        have e37 : ax.eval (.tmp 37) = _ := hF 7 (det 37 _) (.tail _ (.tail _ (.tail _ (.tail _ (.tail _ (.head _))))))
        have e38 : ax.eval (.tmp 38) = _ := hF 8 (det 38 _) (.tail _ (.tail _ (.tail _ (.tail _ (.head _)))))
        have e39 : ax.eval (.tmp 39) = _ := hF 9 (det 39 _) (.tail _ (.tail _ (.tail _ (.head _))))
        have e40 : ax.eval (.tmp 40) = _ := hF 10 (det 40 _) (.tail _ (.tail _ (.head _)))
        have e41 : ax.eval (.tmp 41) = _ := hF 11 (det 41 _) (.tail _ (.head _))
        have e42 : ax.eval (.tmp 42) = _ := hF 12 (det 42 _) (.head _)
        rw [AllEq.frame (D := [30, 31, 32, 33, 34, 35, 36, 37, 38, 39, 40, 41, 42]) (AllEq.cons e30 (AllEq.cons e31 (AllEq.cons e32 (AllEq.cons e33 (AllEq.cons e34 (AllEq.cons e35 (AllEq.cons e36 (AllEq.cons e37 (AllEq.cons e38 (AllEq.cons e39 (AllEq.cons e40 (AllEq.cons e41 (AllEq.cons e42 (AllEq.nil)))))))))))))) hE rfl]
        clear hF hE e30 e31 e32 e33 e34 e35 e36 e37 e38 e39 e40 e41 e42
        simp only [List.foldl_cons, List.foldl_nil, Act.put, List.setIfInBounds_toArray, List.set_cons_succ, List.set_cons_zero]
        have HO4 := Lib.hid ((HO.out.ext R4).front [_] rfl)
        clear R4
        go_wp2_with fail
        refine (touch_any _ pa ma k _ (1 + y % 20) z HC.out.2.2 (by omega) HO4.out.bk (touches_heats _)).mono ?_
        rintro e w5 ⟨rfl, hB5, hg5⟩
        have O5 := HO4.out.book hB5 hg5
        rw [← touches_snoc (deeds xs ys k) (1 + y % 20, z), ← HN.out.1] at O5
        have HO5 := Lib.hid (O5.front [_] rfl)
        have HNR := Lib.hid HN.out.2
        clear hB5 hg5 O5 HO4 HO HC HN y1 y2 y3 y4 y5 y6 y7
        have hXw := HO5.out.below
        obtain ⟨_, _, hA2, hb2, hc⟩ := Hrow.out.in_ hXw (i := j) (by have := Hlen.out; omega)
        cases hA2
        obtain ⟨_, _, hA2, hb2', hc'⟩ := Hrow'.out.in_ hXw (i := j) (by have := Hlen'.out; omega)
        cases hA2
        have gX : xs.getD j 0 = xs[j]'(by have := Hlen.out; omega) := by rw [List.getD_eq_getElem?_getD, List.getElem?_eq_getElem (by have := Hlen.out; omega)]; rfl
        have gY : ys.getD j 0 = ys[j]'(by have := Hlen'.out; omega) := by rw [List.getD_eq_getElem?_getD, List.getElem?_eq_getElem (by have := Hlen'.out; omega)]; rfl
        have wY := Hw'.out (ys[j]'(by have := Hlen'.out; omega)) (List.getElem_mem _)
        rw [← gX] at hc
        rw [← gY] at hc' wY
        obtain ⟨y, y1, y2, y3, y4, y5, y6, y7, y8⟩ := chk_facts (xs.getD j 0)
        have hnr := HNR.out
        rw [y8] at hnr
        generalize xs.getD j 0 = x2 at hc y1 hnr
        generalize ys.getD j 0 = z2 at hc' wY hnr
        have HN := Lib.hid hnr
        have HC := Lib.hid (And.intro hc (And.intro hc' wY))
        clear hnr hc hc' wY gX gY y8 hXw HNR
        go_upto_region 10 with fail
        refine wp_typed (R := Ext) (w0 := w5) [[], [], [], [2], [], [2, 3, 4], [1, 2, 3, 4, 5], [1, 2, 3, 4, 5, 6], [1, 2, 3, 4, 5, 6, 7], [1, 2, 3, 4, 5, 6, 7, 8], [1, 2, 3, 4, 5, 6, 7, 8, 9], [1, 2, 3, 4, 5, 6, 7, 8, 9, 10], [], [], [13], [], [13, 14, 15], [12, 13, 14, 15, 16], [12, 13, 14, 15, 16, 17], [0, 1, 2, 3, 4, 5, 6, 7, 8, 9, 10, 11, 12, 13, 14, 15, 16, 17, 18]] [44, 45, 46, 47, 48, 49, 50, 51, 52, 53, 54, 55, 56, 57, 58, 59, 60, 61, 62] Ext.refl (fun _ _ _ => Ext.trans) (Ext.drew _) (by kernel_rfl) ?_
        apply Build.det 44 Ext.refl (by rfl) (by rfl) rfl
        case h =>   -- 0: t44 := Op.move (tmp 8)
          intro ax wx hE hR hF
          have e8 : ax.eval (.tmp 8) = .pointer (some ⟨pb, 0, none⟩) := hE.eval 8 (by rfl) rfl
          simp [go_sem, BigFrame.eval_const, BigFrame.eval_global, BigFrame.eval_func, ↓IntWalk.iteOmega, ev e8, y1, y3, y4, y5, y6, hwn, hwj]
          with_reducible rfl
        apply Build.det 45 Ext.refl (by rfl) (by rfl) rfl
        case h =>   -- 1: t45 := Op.move (tmp 0)
          intro ax wx hE hR hF
          have e0 : ax.eval (.tmp 0) = .slice (some ⟨b, off, none⟩) len cap := hE.eval 0 (by rfl) rfl
          simp [go_sem, BigFrame.eval_const, BigFrame.eval_global, BigFrame.eval_func, ↓IntWalk.iteOmega, ev e0, y1, y3, y4, y5, y6, hwn, hwj]
          with_reducible rfl
        apply Build.det 46 Ext.refl (by rfl) (by rfl) rfl
        case h =>   -- 2: t46 := Op.move (tmp 9)
          intro ax wx hE hR hF
          have e9 : ax.eval (.tmp 9) = .int .i64 n := hE.eval 9 (by rfl) rfl
          simp [go_sem, BigFrame.eval_const, BigFrame.eval_global, BigFrame.eval_func, ↓IntWalk.iteOmega, ev e9, y1, y3, y4, y5, y6, hwn, hwj]
          with_reducible rfl
        apply Build.det 47 Ext.refl (by rfl) (by rfl) rfl
        case h =>   -- 3: t47 := Op.binOp BinOp.sub 3 (tmp 46) (const (Value.int IntKind.i64 1)) 3
          intro ax wx hE hR hF
          have e46 : ax.eval (.tmp 46) = _ := hF 2 (det 46 _) (by decide) (.head _)
          simp [go_sem, BigFrame.eval_const, BigFrame.eval_global, BigFrame.eval_func, ↓IntWalk.iteOmega, ev e46, y1, y3, y4, y5, y6, hwn, hwj]
          with_reducible rfl
        apply Build.det 48 Ext.refl (by rfl) (by rfl) rfl
        case h =>   -- 4: t48 := Op.move (tmp 10)
          intro ax wx hE hR hF
          have e10 : ax.eval (.tmp 10) = .int .i64 k := hE.eval 10 (by rfl) rfl
          simp [go_sem, BigFrame.eval_const, BigFrame.eval_global, BigFrame.eval_func, ↓IntWalk.iteOmega, ev e10, y1, y3, y4, y5, y6, hwn, hwj]
          with_reducible rfl
        apply Build.det 49 Ext.refl (by rfl) (by rfl) rfl
        case h =>   -- 5: t49 := Op.binOp BinOp.sub 3 (tmp 47) (tmp 48) 3
          intro ax wx hE hR hF
          have e47 : ax.eval (.tmp 47) = _ := hF 3 (det 47 _) (by decide) (.tail _ (.head _))
          have e48 : ax.eval (.tmp 48) = _ := hF 4 (det 48 _) (by decide) (.head _)
          simp [go_sem, BigFrame.eval_const, BigFrame.eval_global, BigFrame.eval_func, ↓IntWalk.iteOmega, ev e47, ev e48, y1, y3, y4, y5, y6, hwn, hwj]
          with_reducible rfl
        apply Build.det 50 Ext.refl (by rfl) (by rfl) rfl
        case h =>   -- 6: t50 := Op.indexAddr 41 (tmp 45) (tmp 49)
          intro ax wx hE hR hF
          have e45 : ax.eval (.tmp 45) = _ := hF 1 (det 45 _) (by decide) (.tail _ (.tail _ (.tail _ (.tail _ (.head _)))))
          have e49 : ax.eval (.tmp 49) = _ := hF 5 (det 49 _) (by decide) (.head _)
          simp [go_sem, BigFrame.eval_const, BigFrame.eval_global, BigFrame.eval_func, ↓IntWalk.iteOmega, ev e45, ev e49, y1, y3, y4, y5, y6, hwn, hwj]
          with_reducible rfl
        apply Build.det 51 Ext.refl (by rfl) (by rfl) rfl
        case h =>   -- 7: t51 := Op.load 3 (tmp 50)
          intro ax wx hE hR hF
          have e50 : ax.eval (.tmp 50) = _ := hF 6 (det 50 _) (by decide) (.head _)
          have hX := (hR.cell (p := ⟨b, off + j, none⟩) (Nat.lt_of_lt_of_le hb2 HO5.out.below.size)).trans HC.out.1; have hY := (hR.cell (p := ⟨b', off' + j, none⟩) (Nat.lt_of_lt_of_le hb2' HO5.out.below.size)).trans HC.out.2.1
          simp [go_sem, BigFrame.eval_const, BigFrame.eval_global, BigFrame.eval_func, ↓IntWalk.iteOmega, ev e50, y1, y3, y4, y5, y6, hwn, hwj, hX, hY]
          with_reducible rfl
        apply Build.det 52 Ext.refl (by rfl) (by rfl) rfl
        case h =>   -- 8: t52 := Op.convert 3 49 (tmp 51)
          intro ax wx hE hR hF
          have e51 : ax.eval (.tmp 51) = _ := hF 7 (det 51 _) (by decide) (.head _)
          simp [go_sem, BigFrame.eval_const, BigFrame.eval_global, BigFrame.eval_func, ↓IntWalk.iteOmega, ev e51, y1, y3, y4, y5, y6, hwn, hwj]
          with_reducible rfl
        apply Build.det 53 Ext.refl (by rfl) (by rfl) rfl
        case h =>   -- 9: t53 := Op.binOp BinOp.rem 49 (tmp 52) (const (Value.int IntKind.u64 20)) 49
          intro ax wx hE hR hF
          have e52 : ax.eval (.tmp 52) = _ := hF 8 (det 52 _) (by decide) (.head _)
          simp [go_sem, BigFrame.eval_const, BigFrame.eval_global, BigFrame.eval_func, ↓IntWalk.iteOmega, ev e52, y1, y3, y4, y5, y6, hwn, hwj]
          with_reducible rfl
        apply Build.det 54 Ext.refl (by rfl) (by rfl) rfl
        case h =>   -- 10: t54 := Op.convert 49 3 (tmp 53)
          intro ax wx hE hR hF
          have e53 : ax.eval (.tmp 53) = _ := hF 9 (det 53 _) (by decide) (.head _)
          simp [go_sem, BigFrame.eval_const, BigFrame.eval_global, BigFrame.eval_func, ↓IntWalk.iteOmega, ev e53, y1, y3, y4, y5, y6, hwn, hwj]
          with_reducible rfl
        apply Build.det 55 Ext.refl (by rfl) (by rfl) rfl
        case h =>   -- 11: t55 := Op.binOp BinOp.add 3 (const (Value.int IntKind.i64 1)) (tmp 54) 3
          intro ax wx hE hR hF
          have e54 : ax.eval (.tmp 54) = _ := hF 10 (det 54 _) (by decide) (.head _)
          simp [go_sem, BigFrame.eval_const, BigFrame.eval_global, BigFrame.eval_func, ↓IntWalk.iteOmega, ev e54, y1, y3, y4, y5, y6, hwn, hwj]
          with_reducible rfl
        apply Build.det 56 Ext.refl (by rfl) (by rfl) rfl
        case h =>   -- 12: t56 := Op.move (tmp 1)
          intro ax wx hE hR hF
          have e1 : ax.eval (.tmp 1) = .slice (some ⟨b', off', none⟩) len' cap' := hE.eval 1 (by rfl) rfl
          simp [go_sem, BigFrame.eval_const, BigFrame.eval_global, BigFrame.eval_func, ↓IntWalk.iteOmega, ev e1, y1, y3, y4, y5, y6, hwn, hwj]
          with_reducible rfl
        apply Build.det 57 Ext.refl (by rfl) (by rfl) rfl
        case h =>   -- 13: t57 := Op.move (tmp 9)
          intro ax wx hE hR hF
          have e9 : ax.eval (.tmp 9) = .int .i64 n := hE.eval 9 (by rfl) rfl
          simp [go_sem, BigFrame.eval_const, BigFrame.eval_global, BigFrame.eval_func, ↓IntWalk.iteOmega, ev e9, y1, y3, y4, y5, y6, hwn, hwj]
          with_reducible rfl
        apply Build.det 58 Ext.refl (by rfl) (by rfl) rfl
        case h =>   -- 14: t58 := Op.binOp BinOp.sub 3 (tmp 57) (const (Value.int IntKind.i64 1)) 3
          intro ax wx hE hR hF
          have e57 : ax.eval (.tmp 57) = _ := hF 13 (det 57 _) (by decide) (.head _)
          simp [go_sem, BigFrame.eval_const, BigFrame.eval_global, BigFrame.eval_func, ↓IntWalk.iteOmega, ev e57, y1, y3, y4, y5, y6, hwn, hwj]
          with_reducible rfl
        apply Build.det 59 Ext.refl (by rfl) (by rfl) rfl
        case h =>   -- 15: t59 := Op.move (tmp 10)
          intro ax wx hE hR hF
          have e10 : ax.eval (.tmp 10) = .int .i64 k := hE.eval 10 (by rfl) rfl
          simp [go_sem, BigFrame.eval_const, BigFrame.eval_global, BigFrame.eval_func, ↓IntWalk.iteOmega, ev e10, y1, y3, y4, y5, y6, hwn, hwj]
          with_reducible rfl
        apply Build.det 60 Ext.refl (by rfl) (by rfl) rfl
        case h =>   -- 16: t60 := Op.binOp BinOp.sub 3 (tmp 58) (tmp 59) 3
          intro ax wx hE hR hF
          have e58 : ax.eval (.tmp 58) = _ := hF 14 (det 58 _) (by decide) (.tail _ (.head _))
          have e59 : ax.eval (.tmp 59) = _ := hF 15 (det 59 _) (by decide) (.head _)
          simp [go_sem, BigFrame.eval_const, BigFrame.eval_global, BigFrame.eval_func, ↓IntWalk.iteOmega, ev e58, ev e59, y1, y3, y4, y5, y6, hwn, hwj]
          with_reducible rfl
        apply Build.det 61 Ext.refl (by rfl) (by rfl) rfl
        case h =>   -- 17: t61 := Op.indexAddr 41 (tmp 56) (tmp 60)
          intro ax wx hE hR hF
          have e56 : ax.eval (.tmp 56) = _ := hF 12 (det 56 _) (by decide) (.tail _ (.tail _ (.tail _ (.tail _ (.head _)))))
          have e60 : ax.eval (.tmp 60) = _ := hF 16 (det 60 _) (by decide) (.head _)
          simp [go_sem, BigFrame.eval_const, BigFrame.eval_global, BigFrame.eval_func, ↓IntWalk.iteOmega, ev e56, ev e60, y1, y3, y4, y5, y6, hwn, hwj]
          with_reducible rfl
        apply Build.det 62 Ext.refl (by rfl) (by rfl) rfl
        case h =>   -- 18: t62 := Op.load 3 (tmp 61)
          intro ax wx hE hR hF
          have e61 : ax.eval (.tmp 61) = _ := hF 17 (det 61 _) (by decide) (.head _)
          have hX := (hR.cell (p := ⟨b, off + j, none⟩) (Nat.lt_of_lt_of_le hb2 HO5.out.below.size)).trans HC.out.1; have hY := (hR.cell (p := ⟨b', off' + j, none⟩) (Nat.lt_of_lt_of_le hb2' HO5.out.below.size)).trans HC.out.2.1
          simp [go_sem, BigFrame.eval_const, BigFrame.eval_global, BigFrame.eval_func, ↓IntWalk.iteOmega, ev e61, y1, y3, y4, y5, y6, hwn, hwj, hX, hY]
          with_reducible rfl
        apply Build.stop
        refine ⟨by kernel_rfl, .inr ⟨by kernel_rfl, _, rfl, rfl, ?_⟩⟩
        intro ax w4 hE R4 hF
        have e44 : ax.eval (.tmp 44) = _ := hF 0 (det 44 _) (.tail _ (.tail _ (.tail _ (.tail _ (.tail _ (.tail _ (.tail _ (.tail _ (.tail _ (.tail _ (.tail _ (.tail _ (.tail _ (.tail _ (.tail _ (.tail _ (.tail _ (.tail _ (.head _)))))))))))))))))))
        have e45 : ax.eval (.tmp 45) = _ := hF 1 (det 45 _) (.tail _ (.tail _ (.tail _ (.tail _ (.tail _ (.tail _ (.tail _ (.tail _ (.tail _ (.tail _ (.tail _ (.tail _ (.tail _ (.tail _ (.tail _ (.tail _ (.tail _ (.head _))))))))))))))))))
        have e46 : ax.eval (.tmp 46) = _ := hF 2 (det 46 _) (.tail _ (.tail _ (.tail _ (.tail _ (.tail _ (.tail _ (.tail _ (.tail _ (.tail _ (.tail _ (.tail _ (.tail _ (.tail _ (.tail _ (.tail _ (.tail _ (.head _)))))))))))))))))
        have e47 : ax.eval (.tmp 47) = _ := hF 3 (det 47 _) (.tail _ (.tail _ (.tail _ (.tail _ (.tail _ (.tail _ (.tail _ (.tail _ (.tail _ (.tail _ (.tail _ (.tail _ (.tail _ (.tail _ (.tail _ (.head _))))))))))))))))
        have e48 : ax.eval (.tmp 48) = _ := hF 4 (det 48 _) (.tail _ (.tail _ (.tail _ (.tail _ (.tail _ (.tail _ (.tail _ (.tail _ (.tail _ (.tail _ (.tail _ (.tail _ (.tail _ (.tail _ (.head _)))))))))))))))
        have e49 : ax.eval (.tmp 49) = _ := hF 5 (det 49 _) (.tail _ (.tail _ (.tail _ (.tail _ (.tail _ (.tail _ (.tail _ (.tail _ (.tail _ (.tail _ (.tail _ (.tail _ (.tail _ (.head _))))))))))))))
        have e50 : ax.eval (.tmp 50) = _ := hF 6 (det 50 _) (.tail _ (.tail _ (.tail _ (.tail _ (.tail _ (.tail _ (.tail _ (.tail _ (.tail _ (.tail _ (.tail _ (.tail _ (.head _)))))))))))))
        have e51 : ax.eval (.tmp 51) = _ := hF 7 (det 51 _) (.tail _ (.tail _ (.tail _ (.tail _ (.tail _ (.tail _ (.tail _ (.tail _ (.tail _ (.tail _ (.tail _ (.head _))))))))))))
        have e52 : ax.eval (.tmp 52) = _ := hF 8 (det 52 _) (.tail _ (.tail _ (.tail _ (.tail _ (.tail _ (.tail _ (.tail _ (.tail _ (.tail _ (.tail _ (.head _)))))))))))
        have e53 : ax.eval (.tmp 53) = _ := hF 9 (det 53 _) (.tail _ (.tail _ (.tail _ (.tail _ (.tail _ (.tail _ (.tail _ (.tail _ (.tail _ (.head _))))))))))
        have e54 : ax.eval (.tmp 54) = _ := hF 10 (det 54 _) (.tail _ (.tail _ (.tail _ (.tail _ (.tail _ (.tail _ (.tail _ (.tail _ (.head _)))))))))
        have e55 : ax.eval (.tmp 55) = _ := hF 11 (det 55 _) (.tail _ (.tail _ (.tail _ (.tail _ (.tail _ (.tail _ (.tail _ (.head _))))))))
        have e56 : ax.eval (.tmp 56) = _ := hF 12 (det 56 _) (.tail _ (.tail _ (.tail _ (.tail _ (.tail _ (.tail _ (.head _)))))))
        have e57 : ax.eval (.tmp 57) = _ := hF 13 (det 57 _) (.tail _ (.tail _ (.tail _ (.tail _ (.tail _ (.head _))))))
        have e58 : ax.eval (.tmp 58) = _ := hF 14 (det 58 _) (.tail _ (.tail _ (.tail _ (.tail _ (.head _)))))
        have e59 : ax.eval (.tmp 59) = _ := hF 15 (det 59 _) (.tail _ (.tail _ (.tail _ (.head _))))
        have e60 : ax.eval (.tmp 60) = _ := hF 16 (det 60 _) (.tail _ (.tail _ (.head _)))
        have e61 : ax.eval (.tmp 61) = _ := hF 17 (det 61 _) (.tail _ (.head _))
        have e62 : ax.eval (.tmp 62) = _ := hF 18 (det 62 _) (.head _)
        rw [AllEq.frame (D := [44, 45, 46, 47, 48, 49, 50, 51, 52, 53, 54, 55, 56, 57, 58, 59, 60, 61, 62]) (AllEq.cons e44 (AllEq.cons e45 (AllEq.cons e46 (AllEq.cons e47 (AllEq.cons e48 (AllEq.cons e49 (AllEq.cons e50 (AllEq.cons e51 (AllEq.cons e52 (AllEq.cons e53 (AllEq.cons e54 (AllEq.cons e55 (AllEq.cons e56 (AllEq.cons e57 (AllEq.cons e58 (AllEq.cons e59 (AllEq.cons e60 (AllEq.cons e61 (AllEq.cons e62 (AllEq.nil)))))))))))))))))))) hE rfl]
        clear hF hE e44 e45 e46 e47 e48 e49 e50 e51 e52 e53 e54 e55 e56 e57 e58 e59 e60 e61 e62
        simp only [List.foldl_cons, List.foldl_nil, Act.put, List.setIfInBounds_toArray, List.set_cons_succ, List.set_cons_zero]
        have HO6 := Lib.hid (HO5.out.ext R4)
        clear R4
        go_wp2_with fail
        refine (touch_any _ pb mb k _ (1 + y % 20) z2 HC.out.2.2 (by omega) HO6.out.bk (touches_heats _)).mono ?_
        rintro e w7 ⟨rfl, hB7, hg7⟩
        have O7 := HO6.out.book hB7 hg7
        rw [← touches_snoc _ (1 + y % 20, z2), ← HN.out] at O7
        have HO7 := Lib.hid O7
        clear hB7 hg7 O7
        go_wp2_with fail
        go_roundw
        case rel => exact ⟨k + 1, by omega, by go_num, HO7.out⟩
        case measure => simp [intOf]; omega
      · obtain rfl : n = k := by omega
        have HO := Lib.hid O
        clear O
        go_wp2_with fail
        go_meet
        case rel => exact HO.out
  case rest =>
    have O1 := hcut
    rw [List.take_of_length_le (by simp [deeds]), touches_rev] at O1
    have hH := touches_heats (deeds xs ys n)
    generalize touches (deeds xs ys n) = u at O1 hH
    clear hJ
    obtain ⟨y, y1, y2, y3, y4, y5, y6, y7⟩ := dec_facts d
    have hJ2 : ∃ k : Nat, k ≤ 6 ∧ (Value.int .i64 0 = .int .i64 k) ∧ Same2 w pa ma pb mb n wc := ⟨0, by omega, rfl, u, O1, hH⟩
    clear O1 hH hcut
    go_wp2_with fail
    go_loopw [11] (fun i wr => ∃ k : Nat, k ≤ 6 ∧ i = .int .i64 k ∧ Same2 w pa ma pb mb n wr) (fun i _ => 6 - (intOf i).toNat)
    case atStart => exact hJ2
    case round =>
      obtain ⟨k, hk, rfl, hS⟩ := hrel
      clear hJ2
      have HS := Lib.hid hS
      clear hS
      by_cases hlt : (k : Int) ≤ y % 6
      · have hk5 : k ≤ 5 := by omega
        go_upto_block 4 with fail
        go_cut [] (fun wx => Same2 w pa ma pb mb n wx)
        case first =>
          go_wp2_with fail
          go_loopw [12] (fun i wx => ∃ c : Nat, c ≤ 22 ∧ i = .int .i64 c ∧ Same2 w pa ma pb mb n wx) (fun i _ => 22 - (intOf i).toNat)
          case atStart => exact ⟨0, by omega, rfl, HS.out⟩
          case round =>
            obtain ⟨c, hc, rfl, u, O, hH⟩ := hrel
            clear HS
            by_cases hlc : c ≤ 21
            · have HO := Lib.hid (And.intro O hH)
              obtain ⟨v, hv⟩ : ∃ v, u (c : Int) = v := ⟨_, rfl⟩
              have A1 := Lib.hid (show ∀ W, Bk W pa ma n u → Calls Try.prog 19 #[.pointer (some ⟨pa, 0, none⟩), .int .i64 (c : Int)] W fun e w' => e = .returned (.int .i64 v) ∧ W = w' from fun W hB => hv ▸ of_any W pa ma n u c hB (wfI_of (by omega) (by omega)))
              have A2 := Lib.hid (show ∀ W, Bk W pb mb n u → Calls Try.prog 19 #[.pointer (some ⟨pb, 0, none⟩), .int .i64 (c : Int)] W fun e w' => e = .returned (.int .i64 v) ∧ W = w' from fun W hB => hv ▸ of_any W pb mb n u c hB (wfI_of (by omega) (by omega)))
              clear O hH hv
              go_wp2_with fail
              refine (A1.out _ HO.out.1.tail.bk).mono ?_
              rintro e w7 ⟨rfl, rfl⟩
              go_wp2_with fail
              refine (A2.out _ HO.out.1.bk).mono ?_
              rintro e w7 ⟨rfl, rfl⟩
              go_wp2_with fail
              go_roundw
              case rel => exact ⟨c + 1, by omega, by go_num, u, HO.out.1, HO.out.2⟩
              case measure => simp [intOf]; omega
            · have HO := Lib.hid (And.intro O hH)
              clear O hH
              go_wp2_with fail
              go_meet
              case rel => exact ⟨u, HO.out.1, HO.out.2⟩
        case rest =>
          obtain ⟨u, O, hH⟩ := hcut
          have HO := Lib.hid O
          have HH := Lib.hid hH
          clear O hH HS
          obtain ⟨Z, hZ, hZs, hZ0, hZ1⟩ := zero22
          go_upto_region 19 with fail
          have hZi : (Try.prog.info? 54).map (·.size) = some Z.size := by rw [hZs]; kernel_rfl
          go_wp2_with ((with_reducible refine wpList_store_row (o := ⟨none, .store 54 (.tmp 13) (.tmp 83), _, _, _, _⟩) rfl _ _ _ rfl wc.heap.size Z rfl rfl 54 Z (heap_alloc_new _ _) hZi rfl hZ1 ?_); rw [setRow_self _ _ _ _ _ (heap_alloc_new _ _)])
          have O2 : OwnT w.heap.size w [tArr wc.heap.size (wasTo u 1), tBook pb mb n u, tBook pa ma n u] (wc.alloc (.cells Z 54)) :=
            HO.out.cons (Ext.alloc _ _) (tArr wc.heap.size (wasTo u 1)) ⟨Z, Blk.new _ _ _, hZs, fun i hi => by rw [hZ0 i hi]; unfold wasTo; rw [if_neg (by omega)]⟩ (fun i hi => by simp [tArr] at hi; omega)
          clear hZ hZs hZ0 hZ1 hZi
          generalize wc.heap.size = wb at O2 ⊢
          generalize wc.alloc (.cells Z 54) = w4 at O2 ⊢
          have hJ4 : ∃ c : Nat, 1 ≤ c ∧ c ≤ 21 ∧ (Value.int .i64 1 = .int .i64 c) ∧ OwnT w.heap.size w [tArr wb (wasTo u c), tBook pb mb n u, tBook pa ma n u] w4 := ⟨1, by omega, by omega, rfl, O2⟩
          clear O2 HO
          go_loopw [14] (fun i wx => ∃ c : Nat, 1 ≤ c ∧ c ≤ 21 ∧ i = .int .i64 c ∧ OwnT w.heap.size w [tArr wb (wasTo u c), tBook pb mb n u, tBook pa ma n u] wx) (fun i _ => 22 - (intOf i).toNat)
          case atStart => exact hJ4
          case round =>
            obtain ⟨c, hc1, hc2, rfl, O⟩ := hrel
            clear hJ4
            by_cases hlc : c ≤ 20
            · obtain ⟨v, hv⟩ : ∃ v, u (c : Int) = v := ⟨_, rfl⟩
              have A1 := Lib.hid (show ∀ W, Bk W pa ma n u → Calls Try.prog 19 #[.pointer (some ⟨pa, 0, none⟩), .int .i64 (c : Int)] W fun e w' => e = .returned (.int .i64 v) ∧ W = w' from fun W hB => hv ▸ of_any W pa ma n u c hB (wfI_of (by omega) (by omega)))
              have HV := Lib.hid (And.intro O hv)
              have q0 := O.arr.cell (k := c) (by omega)
              have q1 := O.arr.frozen c
              clear O hv
              go_wp2_with fail
              refine (A1.out _ HV.out.1.tail.tail.bk).mono ?_
              rintro e w7 ⟨rfl, rfl⟩
              go_wp2_with fail
              go_roundw
              case rel =>
                have h1 := HV.out.1.call (T' := tArr wb (updU (wasTo u c) c v)) chg_set (fun i hi => by simpa [tArr] using hi) (HV.out.1.arr.set (k := c) (by omega) v) (fun i hi => .inl (by simpa [tArr] using hi))
                rw [← HV.out.2, wasTo_step hc1] at h1
                exact ⟨c + 1, by omega, by omega, by go_num, by rw [← HV.out.2]; exact h1⟩
              case measure => simp [intOf]; omega
            · obtain rfl : 21 = c := by omega
              have HO := Lib.hid (O.front [_, _] rfl)
              clear O
              go_wp2_with fail
              refine (decay_any _ pa ma n u HO.out.bk HH.out).mono ?_
              rintro e w5 ⟨rfl, hB5, hg5⟩
              have HO5 := Lib.hid ((HO.out.book hB5 hg5).front [_, _] rfl)
              clear hB5 hg5
              go_wp2_with fail
              refine (decay_any _ pb mb n u HO5.out.bk HH.out).mono ?_
              rintro e w6 ⟨rfl, hB6, hg6⟩
              have O6 := (HO5.out.book hB6 hg6).front [_, _] rfl
              clear hB6 hg6 HO HO5
              have hJ8 : ∃ c : Nat, 1 ≤ c ∧ c ≤ 21 ∧ (Value.int .i64 1 = .int .i64 c) ∧ OwnT w.heap.size w [tArr wb (wasTo u 21), tBook pb mb n (fun i => u i / 2), tBook pa ma n (fun i => u i / 2)] w6 := ⟨1, by omega, by omega, rfl, O6⟩
              clear O6
              go_wp2_with fail
              go_loopw [15] (fun i wx => ∃ c : Nat, 1 ≤ c ∧ c ≤ 21 ∧ i = .int .i64 c ∧ OwnT w.heap.size w [tArr wb (wasTo u 21), tBook pb mb n (fun i => u i / 2), tBook pa ma n (fun i => u i / 2)] wx) (fun i _ => 22 - (intOf i).toNat)
              case atStart => exact hJ8
              case round =>
                obtain ⟨c, hc1, hc2, rfl, O⟩ := hrel
                clear hJ8
                by_cases hlc : c ≤ 20
                · obtain ⟨v, hv⟩ : ∃ v, u (c : Int) = v := ⟨_, rfl⟩
                  have hb := HH.out c
                  rw [hv] at hb
                  have hq : u (c : Int) / 2 = v / 2 := by rw [hv]
                  have A1 := Lib.hid (show ∀ W, Bk W pa ma n (fun i => u i / 2) → Calls Try.prog 19 #[.pointer (some ⟨pa, 0, none⟩), .int .i64 (c : Int)] W fun e w' => e = .returned (.int .i64 (v / 2)) ∧ Ext W w' from fun W hB => (hq ▸ of_any W pa ma n (fun i => u i / 2) c hB (wfI_of (by omega) (by omega))).mono (fun e w' h => ⟨h.1, ext_of_same h.2⟩))
                  have hw21 : wasTo u 21 c = v := by unfold wasTo; rw [if_pos (by omega), hv]
                  have HO := Lib.hid O
                  have HW := Lib.hid hw21
                  have htd : v.tdiv 2 = v / 2 := Int.tdiv_eq_ediv_of_nonneg (by omega)
                  have htw : IntKind.i64.wrap (v / 2) = v / 2 := IntWalk.i64_in _ (by omega)
                  clear O hv hq hw21
                  go_upto_region 29 with fail
                  refine wp_typed (R := Ext) (w0 := wr) [[], [], [0, 1], [], [3], [3, 4], [3, 4, 5], [0, 1, 2, 3, 4, 5, 6]] [101, 102, 103, 104, 105, 106, 107, 108] Ext.refl (fun _ _ _ => Ext.trans) (Ext.drew _) (by kernel_rfl) ?_
                  apply Build.det 101 Ext.refl (by rfl) (by rfl) rfl
                  case h =>   -- 0: t101 := Op.move (tmp 7)
                    intro ax wx hE hR hF
                    have e7 : ax.eval (.tmp 7) = .pointer (some ⟨pa, 0, none⟩) := hE.eval 7 (by rfl) rfl
                    simp [go_sem, BigFrame.eval_const, BigFrame.eval_global, BigFrame.eval_func, ↓IntWalk.iteOmega, ev e7]
                    with_reducible rfl
                  apply Build.det 102 Ext.refl (by rfl) (by rfl) rfl
                  case h =>   -- 1: t102 := Op.move (tmp 15)
                    intro ax wx hE hR hF
                    have e15 : ax.eval (.tmp 15) = .int .i64 c := hE.eval 15 (by rfl) rfl
                    simp [go_sem, BigFrame.eval_const, BigFrame.eval_global, BigFrame.eval_func, ↓IntWalk.iteOmega, ev e15]
                    with_reducible rfl
                  apply Build.call 103 Ext.refl (by rfl) (by rfl) rfl
                  case h =>
                    intro ax wx hE hR hF
                    have e101 : ax.eval (.tmp 101) = _ := hF 0 (det 101 _) (by decide) (.tail _ (.head _))
                    have e102 : ax.eval (.tmp 102) = _ := hF 1 (det 102 _) (by decide) (.head _)
                    simp [go_sem, BigFrame.eval_const, BigFrame.eval_global, BigFrame.eval_func, ↓IntWalk.iteOmega, ev e101, ev e102]
                    with_reducible exact ⟨rfl, rfl⟩
                  case hc => intro wx hR; with_reducible exact A1.out wx (HO.out.ext hR).tail.tail.bk
                  apply Build.det 104 Ext.refl (by rfl) (by rfl) rfl
                  case h =>   -- 3: t104 := Op.move (tmp 15)
                    intro ax wx hE hR hF
                    have e15 : ax.eval (.tmp 15) = .int .i64 c := hE.eval 15 (by rfl) rfl
                    simp [go_sem, BigFrame.eval_const, BigFrame.eval_global, BigFrame.eval_func, ↓IntWalk.iteOmega, ev e15]
                    with_reducible rfl
                  apply Build.det 105 Ext.refl (by rfl) (by rfl) rfl
                  case h =>   -- 4: t105 := Op.indexAddr 54 (tmp 13) (tmp 104)
                    intro ax wx hE hR hF
                    have e13 : ax.eval (.tmp 13) = .pointer (some ⟨wb, 0, none⟩) := hE.eval 13 (by rfl) rfl
                    have e104 : ax.eval (.tmp 104) = _ := hF 3 (det 104 _) (by decide) (.head _)
                    simp [go_sem, BigFrame.eval_const, BigFrame.eval_global, BigFrame.eval_func, ↓IntWalk.iteOmega, ev e13, ev e104]
                    with_reducible rfl
                  apply Build.det 106 Ext.refl (by rfl) (by rfl) rfl
                  case h =>   -- 5: t106 := Op.load 3 (tmp 105)
                    intro ax wx hE hR hF
                    have e105 : ax.eval (.tmp 105) = _ := hF 4 (det 105 _) (by decide) (.head _)
                    have hX := (HO.out.ext hR).arr.cell (k := c) (by omega); rw [HW.out] at hX
                    simp [go_sem, BigFrame.eval_const, BigFrame.eval_global, BigFrame.eval_func, ↓IntWalk.iteOmega, ev e105, hX]
                    with_reducible rfl
                  apply Build.det 107 Ext.refl (by rfl) (by rfl) rfl
                  case h =>   -- 6: t107 := Op.binOp BinOp.quo 3 (tmp 106) (const (Value.int IntKind.i64 2)) 3
                    intro ax wx hE hR hF
                    have e106 : ax.eval (.tmp 106) = _ := hF 5 (det 106 _) (by decide) (.head _)
                    simp [go_sem, BigFrame.eval_const, BigFrame.eval_global, BigFrame.eval_func, ↓IntWalk.iteOmega, ev e106, htd, htw]
                    with_reducible rfl
                  apply Build.det 108 Ext.refl (by rfl) (by rfl) rfl
                  case h =>   -- 7: t108 := Op.binOp BinOp.neq 3 (tmp 103) (tmp 107) 3
                    intro ax wx hE hR hF
                    have e103 : ax.eval (.tmp 103) = _ := hF 2 (det 103 _) (by decide) (.tail _ (.tail _ (.tail _ (.tail _ (.head _)))))
                    have e107 : ax.eval (.tmp 107) = _ := hF 6 (det 107 _) (by decide) (.head _)
                    simp [go_sem, BigFrame.eval_const, BigFrame.eval_global, BigFrame.eval_func, ↓IntWalk.iteOmega, ev e103, ev e107]
                    with_reducible rfl
                  apply Build.stop
                  refine ⟨by kernel_rfl, .inl ⟨rfl, ?_⟩⟩
                  intro ax w7 hE R7 hF
                  have e101 : ax.eval (.tmp 101) = _ := hF 0 (det 101 _) (.tail _ (.tail _ (.tail _ (.tail _ (.tail _ (.tail _ (.tail _ (.head _))))))))
                  have e102 : ax.eval (.tmp 102) = _ := hF 1 (det 102 _) (.tail _ (.tail _ (.tail _ (.tail _ (.tail _ (.tail _ (.head _)))))))
                  have e103 : ax.eval (.tmp 103) = _ := hF 2 (det 103 _) (.tail _ (.tail _ (.tail _ (.tail _ (.tail _ (.head _))))))
                  have e104 : ax.eval (.tmp 104) = _ := hF 3 (det 104 _) (.tail _ (.tail _ (.tail _ (.tail _ (.head _)))))
                  have e105 : ax.eval (.tmp 105) = _ := hF 4 (det 105 _) (.tail _ (.tail _ (.tail _ (.head _))))
                  have e106 : ax.eval (.tmp 106) = _ := hF 5 (det 106 _) (.tail _ (.tail _ (.head _)))
                  have e107 : ax.eval (.tmp 107) = _ := hF 6 (det 107 _) (.tail _ (.head _))
                  have e108 : ax.eval (.tmp 108) = _ := hF 7 (det 108 _) (.head _)
                  rw [AllEq.frame (D := [101, 102, 103, 104, 105, 106, 107, 108]) (AllEq.cons e101 (AllEq.cons e102 (AllEq.cons e103 (AllEq.cons e104 (AllEq.cons e105 (AllEq.cons e106 (AllEq.cons e107 (AllEq.cons e108 (AllEq.nil))))))))) hE rfl]
                  clear hF hE e101 e102 e103 e104 e105 e106 e107 e108
                  simp only [List.foldl_cons, List.foldl_nil, Act.put, List.setIfInBounds_toArray, List.set_cons_succ, List.set_cons_zero]
                  have HO7 := Lib.hid (HO.out.ext R7)
                  clear R7
                  go_wp2_with fail
                  go_roundw
                  case rel => exact ⟨c + 1, by omega, by omega, by go_num, HO7.out⟩
                  case measure => simp [intOf]; omega
                · obtain rfl : 21 = c := by omega
                  have HO := Lib.hid O
                  clear O
                  go_wp2_with fail
                  go_roundw
                  case rel => exact ⟨k + 1, by omega, by go_num, _, HO.out.tail, HH.out.half⟩
                  case measure => simp [intOf]; omega
      · obtain ⟨u, O, hH⟩ := HS.out
        have HO := Lib.hid O
        obtain ⟨S, hS⟩ : ∃ S, sumU u = S := ⟨_, rfl⟩
        have A1 := Lib.hid (show ∀ W, Bk W pa ma n u → Calls Try.prog 20 #[.pointer (some ⟨pa, 0, none⟩)] W fun e w' => e = .returned (.int .i64 S) ∧ Ext W w' from fun W hB => hS ▸ sum_any W pa ma n u hB hH)
        have A2 := Lib.hid (show ∀ W, Bk W pb mb n u → Calls Try.prog 20 #[.pointer (some ⟨pb, 0, none⟩)] W fun e w' => e = .returned (.int .i64 S) ∧ Ext W w' from fun W hB => hS ▸ sum_any W pb mb n u hB hH)
        clear O hH hS HS
        go_wp2_with fail
        refine (A1.out _ HO.out.tail.bk).mono ?_
        rintro e w5 ⟨rfl, hx5⟩
        have HO5 := Lib.hid (HO.out.ext hx5)
        clear hx5
        go_wp2_with fail
        refine (A2.out _ HO5.out.bk).mono ?_
        rintro e w6 ⟨rfl, hx6⟩
        have HO6 := Lib.hid (HO5.out.ext hx6)
        clear hx6
        go_wp2_with fail
        go_ret
        exact ⟨rfl, HO6.out.below⟩
theorem heatOrder_walk (w : World) (v0 v1 v2 : Value) (h0 : Arg Try.prog w 41 v0) (h1 : Arg Try.prog w 41 v1) (h2 : Arg Try.prog w 3 v2) :
    Calls Try.prog 5 #[v0, v1, v2] w fun e w' => e = .returned (.bool true) ∧ Below w.heap.size w w' := by
  obtain ⟨A, len, cap, xs, rfl, a1, a2, a3, a4, a5⟩ := arg_ints Try.underlying41 Try.underlying3 (by kernel_rfl) h0
  obtain ⟨A', len', cap', ys, rfl, b1, b2, b3, b4, b5⟩ := arg_ints Try.underlying41 Try.underlying3 (by kernel_rfl) h1
  obtain ⟨d, rfl, hd⟩ := arg_int Try.underlying3 h2
  exact heatOrder_core A A' len cap len' cap' xs ys d w a3 b3 a5 b5 a4 b4 (by omega) (by omega) hd
end Go.Proofs.Ytojilbacloegjaa
