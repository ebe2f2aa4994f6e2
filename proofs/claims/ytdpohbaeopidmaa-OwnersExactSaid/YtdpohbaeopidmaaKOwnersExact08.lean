/- slices.Insert of one element: in whichever way, in the words of things. -/
import Derived.Test.YtdpohbaeopidmaaKOwnersExact06
import Derived.Test.YtdpohbaeopidmaaKOwnersExact07
namespace Go.Proofs.Ytdpohbaeopidmaa
set_option linter.unusedVariables false
set_option linter.unusedSimpArgs false
open Go.RowKit

theorem splice_get {α : Type} (L cs : List α) (o j : Nat) (h : o + cs.length ≤ L.length) : (splice L o cs)[j]? = if j < o then L[j]? else if j < o + cs.length then cs[j - o]? else L[j]? := by
  unfold splice
  by_cases h1 : j < o
  · rw [if_pos h1, List.getElem?_append_left (by rw [List.length_take]; omega), List.getElem?_take_of_lt h1]
  · rw [if_neg h1, List.getElem?_append_right (by rw [List.length_take]; omega), List.length_take, show min o L.length = o by omega]
    by_cases h2 : j < o + cs.length
    · rw [if_pos h2, List.getElem?_append_left (by omega)]
    · rw [if_neg h2, List.getElem?_append_right (by omega), List.getElem?_drop]
      congr 1
      omega
theorem ins_get {α : Type} (xs cs : List α) (p j : Nat) (h : p ≤ xs.length) : (xs.take p ++ (cs ++ xs.drop p))[j]? = if j < p then xs[j]? else if j < p + cs.length then cs[j - p]? else xs[j - cs.length]? := by
  by_cases h1 : j < p
  · rw [if_pos h1, List.getElem?_append_left (by rw [List.length_take]; omega), List.getElem?_take_of_lt h1]
  · rw [if_neg h1, List.getElem?_append_right (by rw [List.length_take]; omega), List.length_take, show min p xs.length = p by omega]
    by_cases h2 : j < p + cs.length
    · rw [if_pos h2, List.getElem?_append_left (by omega)]
    · rw [if_neg h2, List.getElem?_append_right (by omega), List.getElem?_drop]
      congr 1
      omega
/-- In place. -/
theorem take_room {α : Type} {cur cs xs : List α} {i n cap : Nat} (hcur : cur.length = cap * 3) (hx : cur.take (n * 3) = xs) (hi : i < n) (hroom : n + 1 ≤ cap) (hcs : cs.length = 3) :
    (splice (splice cur ((i + 1) * 3) ((cur.take (n * 3)).drop (i * 3))) (i * 3) cs).take ((n + 1) * 3) = xs.take (i * 3) ++ (cs ++ xs.drop (i * 3)) := by
  have hxl : xs.length = n * 3 := by rw [← hx, List.length_take]; omega
  have hml : (xs.drop (i * 3)).length = (n - i) * 3 := by rw [List.length_drop, hxl]; omega
  have hs1 : (splice cur ((i + 1) * 3) (xs.drop (i * 3))).length = cap * 3 := by rw [length_splice _ _ _ (by omega), hcur]
  rw [hx]
  apply List.ext_getElem?
  intro j
  rw [ins_get _ _ _ _ (by omega)]
  by_cases hj : j < (n + 1) * 3
  · rw [List.getElem?_take_of_lt hj, splice_get _ _ _ _ (by omega), splice_get _ _ _ _ (by omega)]
    by_cases h1 : j < i * 3
    · rw [if_pos h1, if_pos (by omega), if_pos h1, ← hx, List.getElem?_take_of_lt (by omega)]
    · rw [if_neg h1, if_neg h1]
      by_cases h2 : j < i * 3 + cs.length
      · rw [if_pos h2, if_pos h2]
      · rw [if_neg h2, if_neg h2, if_neg (by omega), if_pos (by omega), List.getElem?_drop]
        congr 1
        omega
  · rw [List.getElem?_eq_none (by rw [List.length_take]; omega), if_neg (by omega), if_neg (by omega), List.getElem?_eq_none (by omega)]
/-- A new row. -/
theorem take_grow {α : Type} {cur cs xs L0 : List α} {i n cap cap' : Nat} (hcur : cur.length = cap * 3) (hnc : n ≤ cap) (hx : cur.take (n * 3) = xs) (hi : i < n) (hroom : n + 1 ≤ cap') (hcs : cs.length = 3) (hL : L0.length = cap' * 3) (hL0 : L0.take (i * 3) = cur.take (i * 3)) :
    (splice (splice L0 (i * 3) cs) ((i + 1) * 3) ((cur.take (n * 3)).drop (i * 3))).take ((n + 1) * 3) = xs.take (i * 3) ++ (cs ++ xs.drop (i * 3)) ∧ (splice (splice L0 (i * 3) cs) ((i + 1) * 3) ((cur.take (n * 3)).drop (i * 3))).length = cap' * 3 := by
  have hxl : xs.length = n * 3 := by rw [← hx, List.length_take]; omega
  have hml : (xs.drop (i * 3)).length = (n - i) * 3 := by rw [List.length_drop, hxl]; omega
  have hs1 : (splice L0 (i * 3) cs).length = cap' * 3 := by rw [length_splice _ _ _ (by omega), hL]
  rw [hx]
  refine ⟨?_, by rw [length_splice _ _ _ (by omega), hs1]⟩
  apply List.ext_getElem?
  intro j
  rw [ins_get _ _ _ _ (by omega)]
  by_cases hj : j < (n + 1) * 3
  · rw [List.getElem?_take_of_lt hj, splice_get _ _ _ _ (by omega), splice_get _ _ _ _ (by omega)]
    by_cases h1 : j < i * 3
    · rw [if_pos (by omega), if_pos h1, if_pos h1, ← hx, List.getElem?_take_of_lt (by omega)]
      have e1 : (L0.take (i * 3))[j]? = (cur.take (i * 3))[j]? := by rw [hL0]
      rw [List.getElem?_take_of_lt h1, List.getElem?_take_of_lt h1] at e1
      exact e1
    · by_cases h2 : j < i * 3 + cs.length
      · simp only [if_pos (show j < (i + 1) * 3 by omega), if_neg h1, if_pos h2]
      · simp only [if_neg h1, if_neg h2, if_neg (show ¬ j < (i + 1) * 3 by omega), if_pos (show j < (i + 1) * 3 + (xs.drop (i * 3)).length by omega), List.getElem?_drop]
        congr 1
        omega
  · rw [List.getElem?_eq_none (by rw [List.length_take]; omega), if_neg (by omega), if_neg (by omega), List.getElem?_eq_none (by omega)]

set_option maxRecDepth 100000 in
set_option maxHeartbeats 4000000 in
/-- At the end. -/
theorem insert_end (v : Value) (n vb : Nat) (xs cs : List Value) (w : World) (hr : w.ownsRow 0 31 3 v n xs) (hv : Blk w vb 31 cs.toArray) (hn : n ≤ 1000000000000) (hcs : cs.length = 3) (h2 : ∀ u ∈ cs, u.oneCell' = true) :
    Calls Try.prog 68 #[v, .int .i64 n, .slice (some ⟨vb, 0, none⟩) 1 1] w fun e w' => ∃ v',
      e = .returned v' ∧ w'.ownsRow 0 31 3 v' (n + 1) (xs ++ cs) ∧ w.grownBy w' v.ownBlock ∧ (v'.ownBlock = v.ownBlock ∨ ∃ k, v'.ownBlock = some k ∧ w.heap.size ≤ k) := by
  obtain ⟨ti, hi0, hz, hsz, hby⟩ := info_own
  have hcc : ∀ j u, cs[j]? = some u → w.cell? ((⟨vb, 0, none⟩ : Addr).add j) = some u := fun j u hj => by
    have hadd : (⟨vb, 0, none⟩ : Addr).add j = ⟨vb, j, none⟩ := by unfold Addr.add; split <;> simp_all
    rw [hadd, hv.cell]
    simpa using hj
  have hap := fun ty => run_append_fresh (P := Try.prog) w 42 ty 31 ti zOwn 3 24 Try.underlying42 hi0 hz hsz hby rfl (by omega) v n xs hr ⟨vb, 0, none⟩ 1 1 cs (by omega) hcc h2 (by unfold maxLen; omega) (by omega)
  obtain ⟨v', w', hrun, hr', hgr, hfresh⟩ := hap 42
  have HF := Lib.hid (And.intro hr' (And.intro hgr hfresh))
  have hmax : n + 1 ≤ maxLen := by unfold maxLen; omega
  have hsl : v = .slice none 0 0 ∧ n = 0 ∨ ∃ g cap, v = .slice (some ⟨g, 0, none⟩) n cap ∧ n ≤ cap ∧ cap ≤ maxLen := by
    rcases hr.2 with h | ⟨g, cap, cur, h, _, _, h3, h4, _⟩
    · exact .inl h
    · exact .inr ⟨g, cap, h, h3, h4⟩
  have HR := Lib.hid hrun
  clear hap hcc hr' hgr hfresh hrun hr hv h2
  rcases hsl with ⟨rfl, rfl⟩ | ⟨g, cap, rfl, hnc, hcm⟩
  · go_enter Try.func68, Try.ntmps68
    go_wp2_with (at_builtin; go_must (refine wpList_append_run (o := ⟨some 25, _, _, _, _, _⟩) rfl _ _ _ _ rfl _ _ rfl rfl HR.out ?_))
    go_ret
    exact ⟨v', rfl, HF.out⟩
  · unfold maxLen at hcm hmax
    by_cases hcn : cap = n
    · subst hcn
      go_enter Try.func68, Try.ntmps68
      go_wp2_with (at_builtin; go_must (refine wpList_append_run (o := ⟨some 25, _, _, _, _, _⟩) rfl _ _ _ _ rfl _ _ rfl rfl HR.out ?_))
      go_ret
      exact ⟨v', rfl, HF.out⟩
    · go_enter Try.func68, Try.ntmps68
      go_wp2_with (at_builtin; go_must (refine wpList_append_run (o := ⟨some 25, _, _, _, _, _⟩) rfl _ _ _ _ rfl _ _ rfl rfl HR.out ?_))
      go_ret
      exact ⟨v', rfl, HF.out⟩

theorem insert_any {H : Nat} {A : World} {R : List Thing} (v : Value) (n i vb : Nat) (xs cs : List Value) (w : World) (hO : OwnT H A (tRow 31 3 v n xs :: tBlk vb 31 cs.toArray :: R) w) (hi : i ≤ n) (hn : n ≤ 1000000000000) (hcs : cs.length = 3)
    (h1 : ∀ u ∈ xs, u.oneCell' = true) (h2 : ∀ u ∈ cs, u.oneCell' = true) :
    Calls Try.prog 68 #[v, .int .i64 i, .slice (some ⟨vb, 0, none⟩) 1 1] w fun e w' => ∃ v',
      e = .returned v' ∧ OwnT H A (tRow 31 3 v' (n + 1) (xs.take (i * 3) ++ (cs ++ xs.drop (i * 3))) :: tBlk vb 31 cs.toArray :: R) w' := by
  have hr := hO.r0
  have hv := hO.b1
  have hxl := hr.1
  by_cases hin : i = n
  · subst hin
    refine (insert_end v i vb xs cs w hr hv hn hcs h2).mono ?_
    rintro e w' ⟨v', rfl, h3, h4, h5⟩
    rw [List.take_of_length_le (by omega), List.drop_of_length_le (by omega), List.append_nil]
    exact ⟨v', rfl, hO.row h3 h4 h5⟩
  · obtain ⟨g, cap, cur, rfl, hg, hnc, hcm, hcur, hx⟩ := row_some hr (by omega)
    have hne : vb ≠ g := fun e => by
      have := (List.pairwise_cons.1 hO.diff).1 (tBlk vb 31 cs.toArray) (by simp) g (by simp [tRow, Value.ownBlock])
      simp [tBlk, e] at this
    have h1' : ∀ u ∈ cur.toList.take (n * 3), u.oneCell' = true := by rw [hx]; exact h1
    have hcl : cur.toList.length = cap * 3 := by rw [Array.length_toList, hcur]
    by_cases hroom : n + 1 ≤ cap
    · refine (insert_room g n cap i vb cur cs w hg hv hne (by omega) hroom hcm hcur hcs h1' h2).mono ?_
      rintro e w' ⟨rfl, h3, h4⟩
      refine ⟨_, rfl, hO.row (row_of h3 hroom hcm ?_ ?_) h4.grown (.inl rfl)⟩
      · have := length_splice cur.toList ((i + 1) * 3) ((cur.toList.take (n * 3)).drop (i * 3)) (by rw [List.length_drop, List.length_take]; omega)
        rw [List.size_toArray, length_splice _ _ _ (by omega), this, hcl]
      · simpa using take_room hcl hx (by omega) hroom hcs
    · refine (insert_grow g n cap i vb cur cs w hg hv (by omega) hnc (by omega) hn hcur hcs h1' h2).mono ?_
      rintro e w' ⟨cap', L0, rfl, h3, h4, h5, h6, h7, h8⟩
      obtain ⟨ht, hl⟩ := take_grow hcl hnc hx (by omega) h3 hcs h5 h6
      refine ⟨_, rfl, hO.row (row_of h7 h3 h4 (by simpa using hl) (by simpa using ht)) (only_of_below h8 _) (.inr ⟨_, rfl, Nat.le_refl _⟩)⟩
end Go.Proofs.Ytdpohbaeopidmaa

/- slices.Delete of one element, at structs of three ints. -/
namespace Go.Proofs.Ytdpohbaeopidmaa
set_option linter.unusedVariables false
set_option linter.unusedSimpArgs false
open Go.RowKit

set_option maxRecDepth 100000 in
set_option maxHeartbeats 4000000 in
theorem delete_raw (g n cap i : Nat) (cur : Array Value) (xs : List Value) (w : World) (hg : Blk w g 31 cur) (hi : i < n) (hnc : n ≤ cap) (hc : cap ≤ maxLen) (hcur : cur.size = cap * 3) (hx : cur.toList.take (n * 3) = xs) (h1 : ∀ u ∈ xs, u.oneCell' = true) :
    Calls Try.prog 71 #[.slice (some ⟨g, 0, none⟩) n cap, .int .i64 i, .int .i64 ((i : Int) + 1)] w fun e w' => ∃ cur' : Array Value,
      e = .returned (.slice (some ⟨g, 0, none⟩) (n - 1) cap) ∧ Blk w' g 31 cur' ∧ cur'.size = cap * 3 ∧ cur'.toList.take ((n - 1) * 3) = xs.take (i * 3) ++ xs.drop ((i + 1) * 3) ∧ Chg [g] w w' := by
  unfold maxLen at hc
  obtain ⟨ti, hi0, hz, hsz, hby⟩ := info_own
  obtain ⟨mv, hmv⟩ : ∃ mv, xs.drop ((i + 1) * 3) = mv := ⟨_, rfl⟩
  have hxl : xs.length = n * 3 := by rw [← hx, List.length_take, Array.length_toList, hcur]; omega
  have hml : mv.length = (n - (i + 1)) * 3 := by rw [← hmv, List.length_drop, hxl]; omega
  have hm1 : ∀ u ∈ mv, u.oneCell' = true := fun u hu => h1 u (by rw [← hmv] at hu; exact List.mem_of_mem_drop hu)
  obtain ⟨cur1, hcur1⟩ : ∃ cur1 : List Value, cur.toList.take (i * 3) ++ mv ++ cur.toList.drop (i * 3 + mv.length) = cur1 := ⟨_, rfl⟩
  have hcl : cur.toList.length = cap * 3 := by rw [Array.length_toList, hcur]
  have hl1 : cur1.length = cap * 3 := by rw [← hcur1]; simp only [List.length_append, List.length_take, List.length_drop]; omega
  have ht1 : cur1.take ((n - 1) * 3) = xs.take (i * 3) ++ mv := by
    have e : (n - 1) * 3 = (cur.toList.take (i * 3) ++ mv).length := by simp only [List.length_append, List.length_take]; omega
    rw [← hcur1, e, List.take_left, ← hx, List.take_take, show min (i * 3) (n * 3) = i * 3 by omega]
  obtain ⟨zc, hzc⟩ : ∃ zc : List Value, (Builtin.zeroCells zOwn.cells 1).toList = zc := ⟨_, rfl⟩
  have hzl : zc.length = 3 := by rw [← hzc, Array.length_toList, size_zeroCells]; rfl
  rw [hmv]
  have hsrc : ∀ W A, Blk W g 31 cur → (0 < n - (i + 1) → A = (⟨g, (i + 1) * 3, none⟩ : Addr)) → ∀ j v, mv[j]? = some v → W.cell? (A.add j) = some v := fun W A hW hA j v hj => by
    have hjl : j < mv.length := (List.getElem?_eq_some_iff.1 hj).1
    rw [hA (by omega)]
    have hadd : (⟨g, (i + 1) * 3, none⟩ : Addr).add j = ⟨g, (i + 1) * 3 + j, none⟩ := by unfold Addr.add; split <;> simp_all
    rw [hadd, hW.cell]
    rw [← hmv, List.getElem?_drop, ← hx, List.getElem?_take_of_lt (by omega)] at hj
    simpa using hj
  have hap := fun (W : World) (A : Addr) (cp : Nat) ty (hW : Blk W g 31 cur) (hA : 0 < n - (i + 1) → A = (⟨g, (i + 1) * 3, none⟩ : Addr)) =>
    run_append_room (P := Try.prog) W 42 ty 31 ti Try.underlying42 hi0 g i cap cur hW A (n - (i + 1)) cp mv (by rw [hsz]; exact hml) (hsrc W A hW hA) hm1 (by omega) (by rw [hsz]; omega)
  rw [hsz, hcur1, show i + (n - (i + 1)) = n - 1 by omega] at hap
  have hwi : IntKind.i64.wrap ((i : Int) + 1) = (i : Int) + 1 := IntWalk.i64_in _ (by omega)
  have HAP := Lib.hid hap
  have HL := Lib.hid (And.intro hl1 ht1)
  have HG := Lib.hid hg
  have HZ := Lib.hid (And.intro hzc hzl)
  clear hap hsrc hl1 ht1 hcur1 hcl hm1 hml hxl hmv hx h1 hg hcur hzc hzl
  by_cases hcn : i + 1 = cap
  · obtain rfl : cap = n := by omega
    obtain rfl : cap = i + 1 := by omega
    obtain ⟨w0_, rfl⟩ : ∃ w0_, w0_ = w := ⟨_, rfl⟩
    clear hcn
    go_enter Try.func71, Try.ntmps71
    go_upto_region 5 with fail
    refine wp_phasedR (Ext) (fun l w => Ext w0_ w) [[], [], [0, 1], [], [], [3, 4], [0, 1, 2, 3, 4, 5], [0, 1, 2, 3, 4, 5, 6]] [20, 21, 22, 23, 24, 25] (Ext.refl) (Ext.drew _) (by kernel_rfl) ?_
    apply BuildR.det 20 (Ext.refl) (fun l w h => h) (by rfl) (by rfl) rfl
    case h =>   -- 0: t20 := Op.move (tmp 0)
      intro lx ax wx hE hR hF
      have e0 : ax.eval (.tmp 0) = .slice (some ⟨g, 0, none⟩) (i + 1) (i + 1) := hE.eval 0 (by rfl) rfl
      simp [go_sem, BigFrame.eval_const, BigFrame.eval_global, BigFrame.eval_func, ↓IntWalk.iteOmega, ev e0]
      with_reducible rfl
    apply BuildR.det 21 (Ext.refl) (fun l w h => h) (by rfl) (by rfl) rfl
    case h =>   -- 1: t21 := Op.move (tmp 1)
      intro lx ax wx hE hR hF
      have e1 : ax.eval (.tmp 1) = .int .i64 i := hE.eval 1 (by rfl) rfl
      simp [go_sem, BigFrame.eval_const, BigFrame.eval_global, BigFrame.eval_func, ↓IntWalk.iteOmega, ev e1]
      with_reducible rfl
    apply BuildR.det 22 (Ext.refl) (fun l w h => h) (by rfl) (by rfl) rfl
    case h =>   -- 2: t22 := Op.slice 42 (tmp 20) none (some (tmp 21)) none
      intro lx ax wx hE hR hF
      have e20 : ax.eval (.tmp 20) = _ := hF 0 (det 20 _) (by decide) (.tail _ (.head _))
      have e21 : ax.eval (.tmp 21) = _ := hF 1 (det 21 _) (by decide) (.head _)
      simp [go_sem, BigFrame.eval_const, BigFrame.eval_global, BigFrame.eval_func, ↓IntWalk.iteOmega, ev e20, ev e21]
      with_reducible rfl
    apply BuildR.det 23 (Ext.refl) (fun l w h => h) (by rfl) (by rfl) rfl
    case h =>   -- 3: t23 := Op.move (tmp 0)
      intro lx ax wx hE hR hF
      have e0 : ax.eval (.tmp 0) = .slice (some ⟨g, 0, none⟩) (i + 1) (i + 1) := hE.eval 0 (by rfl) rfl
      simp [go_sem, BigFrame.eval_const, BigFrame.eval_global, BigFrame.eval_func, ↓IntWalk.iteOmega, ev e0]
      with_reducible rfl
    apply BuildR.det 24 (Ext.refl) (fun l w h => h) (by rfl) (by rfl) rfl
    case h =>   -- 4: t24 := Op.move (tmp 2)
      intro lx ax wx hE hR hF
      have e2 : ax.eval (.tmp 2) = .int .i64 ((i : Int) + 1) := hE.eval 2 (by rfl) rfl
      simp [go_sem, BigFrame.eval_const, BigFrame.eval_global, BigFrame.eval_func, ↓IntWalk.iteOmega, ev e2]
      with_reducible rfl
    apply BuildR.det 25 (Ext.refl) (fun l w h => h) (by rfl) (by rfl) rfl
    case h =>   -- 5: t25 := Op.slice 42 (tmp 23) (some (tmp 24)) none none
      intro lx ax wx hE hR hF
      have e23 : ax.eval (.tmp 23) = _ := hF 3 (det 23 _) (by decide) (.tail _ (.head _))
      have e24 : ax.eval (.tmp 24) = _ := hF 4 (det 24 _) (by decide) (.head _)
      simp [go_sem, BigFrame.eval_const, BigFrame.eval_global, BigFrame.eval_func, ↓IntWalk.iteOmega, ev e23, ev e24]
      with_reducible rfl
    apply BuildR.stop
    refine ⟨by kernel_rfl, ?_⟩
    intro lx ax w3 hE R3 hL hF
    have e20 : ax.eval (.tmp 20) = _ := hF 0 (det 20 _) (.tail _ (.tail _ (.tail _ (.tail _ (.tail _ (.head _))))))
    have e21 : ax.eval (.tmp 21) = _ := hF 1 (det 21 _) (.tail _ (.tail _ (.tail _ (.tail _ (.head _)))))
    have e22 : ax.eval (.tmp 22) = _ := hF 2 (det 22 _) (.tail _ (.tail _ (.tail _ (.head _))))
    have e23 : ax.eval (.tmp 23) = _ := hF 3 (det 23 _) (.tail _ (.tail _ (.head _)))
    have e24 : ax.eval (.tmp 24) = _ := hF 4 (det 24 _) (.tail _ (.head _))
    have e25 : ax.eval (.tmp 25) = _ := hF 5 (det 25 _) (.head _)
    rw [AllEq.frame (D := [20, 21, 22, 23, 24, 25]) (AllEq.cons e20 (AllEq.cons e21 (AllEq.cons e22 (AllEq.cons e23 (AllEq.cons e24 (AllEq.cons e25 (AllEq.nil))))))) hE rfl]
    clear hF hE e20 e21 e22 e23 e24 e25
    simp only [List.foldl_cons, List.foldl_nil, Act.put, List.setIfInBounds_toArray, List.set_cons_succ, List.set_cons_zero]
    simp only [List.length_cons, List.length_nil, Nat.zero_add, Nat.reduceAdd, List.drop_succ_cons, List.drop_zero, List.drop_nil, tailOps]
    have hg3 := HG.out.ext R3
    have hap2 := fun ty => HAP.out w3 ⟨g, 0, none⟩ 0 ty hg3 (fun h => by omega)
    have hl2 := HL.out
    simp only [Nat.sub_self, Nat.add_sub_cancel] at hap2 hl2
    have HL2 := Lib.hid hl2
    clear hL hl2
    refine wp_append_run _ _ _ _ rfl _ _ rfl rfl (hap2 _) ?_
    have HN := Lib.hid (And.intro (hg3.setRow cur1.toArray) ((Chg.of_ext R3 [g]).trans (chg_setRow w3 g cur1.toArray)))
    generalize w3.setRow g cur1.toArray = w4 at HN ⊢
    clear hg3 R3 HAP HG hap2 HL
    have hclr : ∀ ty, (Builtin.clear_ #[42] ty #[.slice (some ⟨g, i * 3, none⟩) 1 1]).run Try.prog w4 = .ok (.tuple #[]) (w4.setRow g (splice cur1 (i * 3) zc).toArray) := fun ty => by
      have := run_clear_k (P := Try.prog) w4 42 31 ty ti zOwn Try.underlying42 hi0 hz g (i * 3) 1 1 cur1.toArray 31 HN.out.1 (by omega) (by have := HL2.out.1; simp [Value.cells, this]; omega) (zeros_own 1)
      rw [HZ.out.1] at this
      simpa using this
    have HCL := Lib.hid hclr
    clear hclr
    go_wp2_with (with_reducible refine wpList_clear_run (o := ⟨none, _, _, _, _, _⟩) rfl _ _ rfl _ rfl (HCL.out _) ?_)
    go_ret
    refine ⟨(splice cur1 (i * 3) zc).toArray, rfl, HN.out.1.setRow _, ?_, ?_, HN.out.2.trans (chg_setRow _ _ _)⟩
    · rw [List.size_toArray, length_splice _ _ _ (by have := HL2.out.1; have := HZ.out.2; omega)]
      exact HL2.out.1
    · rw [Nat.add_sub_cancel]
      show (splice cur1 (i * 3) zc).take (i * 3) = _
      unfold splice
      rw [List.take_append_of_le_length (by rw [List.length_take]; have := HL2.out.1; omega), List.take_take, Nat.min_self]
      exact HL2.out.2
  · obtain ⟨w0_, rfl⟩ : ∃ w0_, w0_ = w := ⟨_, rfl⟩
    go_enter Try.func71, Try.ntmps71
    go_upto_region 5 with fail
    refine wp_phasedR (Ext) (fun l w => Ext w0_ w) [[], [], [0, 1], [], [], [3, 4], [0, 1, 2, 3, 4, 5], [0, 1, 2, 3, 4, 5, 6]] [20, 21, 22, 23, 24, 25] (Ext.refl) (Ext.drew _) (by kernel_rfl) ?_
    apply BuildR.det 20 (Ext.refl) (fun l w h => h) (by rfl) (by rfl) rfl
    case h =>   -- 0: t20 := Op.move (tmp 0)
      intro lx ax wx hE hR hF
      have e0 : ax.eval (.tmp 0) = .slice (some ⟨g, 0, none⟩) n cap := hE.eval 0 (by rfl) rfl
      simp [go_sem, BigFrame.eval_const, BigFrame.eval_global, BigFrame.eval_func, ↓IntWalk.iteOmega, ev e0]
      with_reducible rfl
    apply BuildR.det 21 (Ext.refl) (fun l w h => h) (by rfl) (by rfl) rfl
    case h =>   -- 1: t21 := Op.move (tmp 1)
      intro lx ax wx hE hR hF
      have e1 : ax.eval (.tmp 1) = .int .i64 i := hE.eval 1 (by rfl) rfl
      simp [go_sem, BigFrame.eval_const, BigFrame.eval_global, BigFrame.eval_func, ↓IntWalk.iteOmega, ev e1]
      with_reducible rfl
    apply BuildR.det 22 (Ext.refl) (fun l w h => h) (by rfl) (by rfl) rfl
    case h =>   -- 2: t22 := Op.slice 42 (tmp 20) none (some (tmp 21)) none
      intro lx ax wx hE hR hF
      have e20 : ax.eval (.tmp 20) = _ := hF 0 (det 20 _) (by decide) (.tail _ (.head _))
      have e21 : ax.eval (.tmp 21) = _ := hF 1 (det 21 _) (by decide) (.head _)
      simp [go_sem, BigFrame.eval_const, BigFrame.eval_global, BigFrame.eval_func, ↓IntWalk.iteOmega, ev e20, ev e21]
      with_reducible rfl
    apply BuildR.det 23 (Ext.refl) (fun l w h => h) (by rfl) (by rfl) rfl
    case h =>   -- 3: t23 := Op.move (tmp 0)
      intro lx ax wx hE hR hF
      have e0 : ax.eval (.tmp 0) = .slice (some ⟨g, 0, none⟩) n cap := hE.eval 0 (by rfl) rfl
      simp [go_sem, BigFrame.eval_const, BigFrame.eval_global, BigFrame.eval_func, ↓IntWalk.iteOmega, ev e0]
      with_reducible rfl
    apply BuildR.det 24 (Ext.refl) (fun l w h => h) (by rfl) (by rfl) rfl
    case h =>   -- 4: t24 := Op.move (tmp 2)
      intro lx ax wx hE hR hF
      have e2 : ax.eval (.tmp 2) = .int .i64 ((i : Int) + 1) := hE.eval 2 (by rfl) rfl
      simp [go_sem, BigFrame.eval_const, BigFrame.eval_global, BigFrame.eval_func, ↓IntWalk.iteOmega, ev e2]
      with_reducible rfl
    apply BuildR.det 25 (Ext.refl) (fun l w h => h) (by rfl) (by rfl) rfl
    case h =>   -- 5: t25 := Op.slice 42 (tmp 23) (some (tmp 24)) none none
      intro lx ax wx hE hR hF
      have e23 : ax.eval (.tmp 23) = _ := hF 3 (det 23 _) (by decide) (.tail _ (.head _))
      have e24 : ax.eval (.tmp 24) = _ := hF 4 (det 24 _) (by decide) (.head _)
      simp [go_sem, BigFrame.eval_const, BigFrame.eval_global, BigFrame.eval_func, ↓IntWalk.iteOmega, ev e23, ev e24]
      with_reducible rfl
    apply BuildR.stop
    refine ⟨by kernel_rfl, ?_⟩
    intro lx ax w3 hE R3 hL hF
    have e20 : ax.eval (.tmp 20) = _ := hF 0 (det 20 _) (.tail _ (.tail _ (.tail _ (.tail _ (.tail _ (.head _))))))
    have e21 : ax.eval (.tmp 21) = _ := hF 1 (det 21 _) (.tail _ (.tail _ (.tail _ (.tail _ (.head _)))))
    have e22 : ax.eval (.tmp 22) = _ := hF 2 (det 22 _) (.tail _ (.tail _ (.tail _ (.head _))))
    have e23 : ax.eval (.tmp 23) = _ := hF 3 (det 23 _) (.tail _ (.tail _ (.head _)))
    have e24 : ax.eval (.tmp 24) = _ := hF 4 (det 24 _) (.tail _ (.head _))
    have e25 : ax.eval (.tmp 25) = _ := hF 5 (det 25 _) (.head _)
    rw [AllEq.frame (D := [20, 21, 22, 23, 24, 25]) (AllEq.cons e20 (AllEq.cons e21 (AllEq.cons e22 (AllEq.cons e23 (AllEq.cons e24 (AllEq.cons e25 (AllEq.nil))))))) hE rfl]
    clear hF hE e20 e21 e22 e23 e24 e25
    simp only [List.foldl_cons, List.foldl_nil, Act.put, List.setIfInBounds_toArray, List.set_cons_succ, List.set_cons_zero]
    simp only [List.length_cons, List.length_nil, Nat.zero_add, Nat.reduceAdd, List.drop_succ_cons, List.drop_zero, List.drop_nil, tailOps]
    have hg3 := HG.out.ext R3
    clear hL
    refine wp_append_run _ _ _ _ rfl _ _ rfl rfl (HAP.out w3 ⟨g, (i + 1) * 3, none⟩ (cap - (i + 1)) _ hg3 (fun _ => rfl)) ?_
    have HN := Lib.hid (And.intro (hg3.setRow cur1.toArray) ((Chg.of_ext R3 [g]).trans (chg_setRow w3 g cur1.toArray)))
    generalize w3.setRow g cur1.toArray = w4 at HN ⊢
    clear hg3 R3 HAP HG
    have hclr : ∀ ty, (Builtin.clear_ #[42] ty #[.slice (some ⟨g, (n - 1) * 3, none⟩) (n - (n - 1)) (cap - (n - 1))]).run Try.prog w4 = .ok (.tuple #[]) (w4.setRow g (splice cur1 ((n - 1) * 3) zc).toArray) := fun ty => by
      have := run_clear_k (P := Try.prog) w4 42 31 ty ti zOwn Try.underlying42 hi0 hz g ((n - 1) * 3) 1 (cap - (n - 1)) cur1.toArray 31 HN.out.1 (by omega) (by have := HL.out.1; simp [Value.cells, this]; omega) (zeros_own 1)
      rw [HZ.out.1] at this
      rw [show n - (n - 1) = 1 by omega]
      simpa using this
    have HCL := Lib.hid hclr
    clear hclr
    go_wp2_with (with_reducible refine wpList_clear_run (o := ⟨none, _, _, _, _, _⟩) rfl _ _ rfl _ rfl (HCL.out _) ?_)
    go_ret
    refine ⟨(splice cur1 ((n - 1) * 3) zc).toArray, rfl, HN.out.1.setRow _, ?_, ?_, HN.out.2.trans (chg_setRow _ _ _)⟩
    · rw [List.size_toArray, length_splice _ _ _ (by have := HL.out.1; have := HZ.out.2; omega)]
      exact HL.out.1
    · show (splice cur1 ((n - 1) * 3) zc).take ((n - 1) * 3) = _
      unfold splice
      rw [List.take_append_of_le_length (by rw [List.length_take]; have := HL.out.1; omega), List.take_take, Nat.min_self]
      exact HL.out.2
theorem delete_any {H : Nat} {A : World} {R : List Thing} (v : Value) (n i : Nat) (xs : List Value) (w : World) (hO : OwnT H A (tRow 31 3 v n xs :: R) w) (hi : i < n) (h1 : ∀ u ∈ xs, u.oneCell' = true) :
    Calls Try.prog 71 #[v, .int .i64 i, .int .i64 ((i : Int) + 1)] w fun e w' => ∃ v',
      e = .returned v' ∧ OwnT H A (tRow 31 3 v' (n - 1) (xs.take (i * 3) ++ xs.drop ((i + 1) * 3)) :: R) w' := by
  have hr := hO.r0
  obtain ⟨g, cap, cur, rfl, hg, hnc, hcm, hcur, hx⟩ := row_some hr (by omega)
  refine (delete_raw g n cap i cur xs w hg hi hnc hcm hcur hx h1).mono ?_
  rintro e w' ⟨cur', rfl, h2, h3, h4, h5⟩
  exact ⟨_, rfl, hO.row (row_of h2 (by omega) hcm h3 h4) h5.grown (.inl rfl)⟩
end Go.Proofs.Ytdpohbaeopidmaa

/- owners: a map from chunks to rows of owners, as a thing. -/
namespace Go.Proofs.Ytdpohbaeopidmaa
set_option linter.unusedVariables false
set_option linter.unusedSimpArgs false
open Go.RowKit Go.Maps Go.ChangeMaps Go.MapKept Go.WideShapes

section
variable {H : Nat} {A w : World} {L : List Thing} {T T1 T2 : Thing}
/-- A thing comes apart. -/
theorem OwnT.split (h : OwnT H A (T :: L) w) (T1 T2 : Thing) (h1 : T1.holds w) (h2 : T2.holds w) (f1 : ∀ i ∈ T1.foot, i ∈ T.foot) (f2 : ∀ i ∈ T2.foot, i ∈ T.foot) (hd : ∀ i ∈ T1.foot, i ∉ T2.foot) : OwnT H A (T1 :: T2 :: L) w := by
  have hp := List.pairwise_cons.1 h.diff
  refine ⟨h.below, h.size, ⟨h1, h2, h.all.2⟩, fun x hx i hi => ?_, ?_⟩
  · rcases List.mem_cons.1 hx with rfl | hx
    · exact h.high T (by simp) i (f1 i hi)
    · rcases List.mem_cons.1 hx with rfl | hx
      · exact h.high T (by simp) i (f2 i hi)
      · exact h.high x (by simp [hx]) i hi
  · refine List.Pairwise.cons (fun y hy i hi hj => ?_) (List.Pairwise.cons (fun y hy i hi hj => hp.1 y hy i (f2 i hi) hj) hp.2)
    rcases List.mem_cons.1 hy with rfl | hy
    · exact hd i hi hj
    · exact hp.1 y hy i (f1 i hi) hj
/-- Two things are one. -/
theorem OwnT.join (h : OwnT H A (T1 :: T2 :: L) w) (T : Thing) (hT : T.holds w) (f : ∀ i ∈ T.foot, i ∈ T1.foot ∨ i ∈ T2.foot) : OwnT H A (T :: L) w := by
  have hp := List.pairwise_cons.1 h.diff
  have hq := List.pairwise_cons.1 hp.2
  refine ⟨h.below, h.size, ⟨hT, h.all.2.2⟩, fun x hx i hi => ?_, List.Pairwise.cons (fun y hy i hi hj => ?_) hq.2⟩
  · rcases List.mem_cons.1 hx with rfl | hx
    · rcases f i hi with h1 | h1
      · exact h.high T1 (by simp) i h1
      · exact h.high T2 (by simp) i h1
    · exact h.high x (by simp [hx]) i hi
  · rcases f i hi with h1 | h1
    · exact hp.1 y (by simp [hy]) i h1 hj
    · exact hq.1 y hy i h1 hj
end

theorem nodup_lt_le : ∀ (N : Nat) (l : List Nat), l.Nodup → (∀ x ∈ l, x < N) → l.length ≤ N := by
  intro N
  induction N with
  | zero =>
    intro l _ h
    cases l with
    | nil => simp
    | cons x l => have := h x (by simp); omega
  | succ N ih =>
    intro l hn h
    by_cases hm : N ∈ l
    · have h1 := ih (l.erase N) (hn.erase N) (fun x hx => by
        have h2 := h x (List.mem_of_mem_erase hx)
        have h3 : x ≠ N := fun e => by subst e; exact (hn.not_mem_erase) hx
        omega)
      rw [List.length_erase_of_mem hm] at h1
      omega
    · have := ih l hn (fun x hx => by
        have h2 := h x hx
        have h3 : x ≠ N := fun e => by subst e; exact hm hx
        omega)
      omega
theorem nodup_range_le (l : List Int) (lo : Int) (N : Nat) (hn : l.Nodup) (h : ∀ x ∈ l, lo ≤ x ∧ x < lo + N) : l.length ≤ N := by
  have h1 : (l.map fun x => (x - lo).toNat).Nodup := by
    rw [List.nodup_iff_pairwise_ne, List.pairwise_map]
    refine (List.nodup_iff_pairwise_ne.1 hn).imp_of_mem (fun {a b} ha hb hab e => hab ?_)
    have := h a ha
    have := h b hb
    omega
  have := nodup_lt_le N _ h1 (fun y hy => by
    obtain ⟨x, hx, rfl⟩ := List.mem_map.1 hy
    have := h x hx
    omega)
  simpa using this
def litI : Lit → Int
  | .int _ x => x
  | _ => 0
/-- A map with keys of a range has no more entries than the range. -/
theorem VM.tight {w : World} {b n : Nat} {m : Int → Option Value} (h : VM w b n m) (lo : Int) (N : Nat) (hk : ∀ i, wfV i → (m i).isSome = true → lo ≤ i ∧ i < lo + N) : VM w b N m := by
  obtain ⟨D, hown, hD⟩ := h
  refine ⟨D, ?_, hD⟩
  obtain ⟨es, clock, hb, F, hs, rfl⟩ := id hown
  refine ⟨es, clock, hb, F, ?_, rfl⟩
  have hapart := fit_apart law_intV F
  have hkeys : ∀ e ∈ es.toList, ∃ x, (Go.WideElems.rg Try.prog 3 heldE e).1 = .int .i64 x ∧ wfV x ∧ (m x).isSome = true := by
    intro e he
    obtain ⟨y, hy⟩ := F.reads e he
    obtain ⟨x, h1, h2, h3⟩ := Maps.keyOf_int_inv Try.underlying3 (Go.WideElems.rd_key hy)
    have hrg : (Go.WideElems.rg Try.prog 3 heldE e).1 = .int .i64 x := by rw [Go.WideElems.rg_of hy]; exact h2
    refine ⟨x, hrg, h3, ?_⟩
    rw [← (hD x h3).2]
    refine List.any_eq_true.2 ⟨Go.WideElems.rg Try.prog 3 heldE e, mem_sorted.2 (List.mem_map.2 ⟨e, he, rfl⟩), ?_⟩
    rw [hrg]
    exact WideAt.sameKey_self (keyV x)
  obtain ⟨f, hf⟩ : ∃ f : MapEntry → Int, ∀ e ∈ es.toList, (Go.WideElems.rg Try.prog 3 heldE e).1 = .int .i64 (f e) ∧ wfV (f e) ∧ (m (f e)).isSome = true := by
    refine ⟨fun e => litI (Go.WideElems.rg Try.prog 3 heldE e).1, fun e he => ?_⟩
    obtain ⟨x, h1, h2, h3⟩ := hkeys e he
    have h4 : litI (Go.WideElems.rg Try.prog 3 heldE e).1 = x := by rw [h1]; rfl
    simp only [h4]
    exact ⟨h1, h2, h3⟩
  have hnd : (es.toList.map f).Nodup := by
    rw [List.nodup_iff_pairwise_ne, List.pairwise_map]
    rw [List.pairwise_map] at hapart
    refine hapart.imp_of_mem (fun {a b} ha hb hab e => hab ?_)
    rw [(hf a ha).1, (hf b hb).1, e]
  have := nodup_range_le (es.toList.map f) lo N hnd (fun x hx => by
    obtain ⟨e, he, rfl⟩ := List.mem_map.1 hx
    exact hk _ (hf e he).2.1 (hf e he).2.2)
  simpa using this

/-- The lists of chunks: L, in the map m of block nb; their rows lie in F. -/
structure ChS (w : World) (nb : Nat) (F : List Nat) (m : Int → Option Value) (L : Int → List OwD) : Prop where
  vm : VM w nb 1023 m
  keys : ∀ c, wfV c → (m c).isSome = true → 1 ≤ c ∧ c ≤ 1023
  nb : nb ∉ F
  lt : ∀ i ∈ F, i < w.heap.size
  range : ∀ c, L c ≠ [] → 1 ≤ c ∧ c ≤ 1023
  rows : ∃ β : Int → Nat, (∀ c, L c ≠ [] → ∃ v, m c = some v ∧ w.ownsRow 0 31 3 v (L c).length ((L c).flatMap ownC) ∧ v.ownBlock = some (β c) ∧ β c ∈ F) ∧ ∀ c c', L c ≠ [] → L c' ≠ [] → β c = β c' → c = c'
def tCh (nb : Nat) (F : List Nat) (m : Int → Option Value) (L : Int → List OwD) : Thing where
  foot := nb :: F
  holds := fun w => ChS w nb F m L
  keep := fun w w' hs h hb => by
    obtain ⟨β, h1, h2⟩ := hb.rows
    refine ⟨hb.vm.same (h nb (by simp)), hb.keys, hb.nb, fun i hi => Nat.lt_of_lt_of_le (hb.lt i hi) hs, hb.range, β, fun c hc => ?_, h2⟩
    obtain ⟨v, e1, e2, e3, e4⟩ := h1 c hc
    exact ⟨v, e1, (tRow 31 3 v (L c).length ((L c).flatMap ownC)).keep w w' hs (fun i hi => by
      have : i = β c := by simpa [tRow, e3] using hi
      subst this
      exact h _ (by simp [e4])) e2, e3, e4⟩
  lt := fun w h i hi => by
    rcases List.mem_cons.1 hi with rfl | hi
    · exact h.vm.lt
    · exact h.lt i hi
def setL (L : Int → List OwD) (c : Int) (X : List OwD) : Int → List OwD := fun i => if i = c then X else L i
theorem setL_same (L : Int → List OwD) (c : Int) (X : List OwD) : setL L c X c = X := if_pos rfl
theorem setL_other {L : Int → List OwD} {c i : Int} {X : List OwD} (h : i ≠ c) : setL L c X i = L i := if_neg h
theorem setL_set (L : Int → List OwD) (c : Int) (X Y : List OwD) : setL (setL L c X) c Y = setL L c Y := by
  funext i
  unfold setL
  split <;> rfl
theorem setL_self {L : Int → List OwD} {c : Int} {X : List OwD} (h : L c = X) : setL L c X = L := by
  funext i
  unfold setL
  split
  · rename_i e; rw [e, h]
  · rfl
section
variable {H : Nat} {A w w' : World} {R : List Thing} {nb : Nat} {F : List Nat} {m : Int → Option Value} {L : Int → List OwD}
theorem OwnT.ch (h : OwnT H A (tCh nb F m L :: R) w) : ChS w nb F m L := h.all.1
/-- A chunk's row comes out. -/
theorem OwnT.takeRow (h : OwnT H A (tCh nb F m L :: R) w) (c : Int) (hc : L c ≠ []) : ∃ v F', m c = some v ∧ OwnT H A (tRow 31 3 v (L c).length ((L c).flatMap ownC) :: tCh nb F' m (setL L c []) :: R) w := by
  have hS := h.ch
  obtain ⟨β, h1, h2⟩ := hS.rows
  obtain ⟨v, e1, e2, e3, e4⟩ := h1 c hc
  have hL : ∀ i, setL L c [] i ≠ [] → i ≠ c ∧ L i ≠ [] ∧ setL L c [] i = L i := fun i hi => by
    by_cases e : i = c
    · subst e; exact absurd (setL_same L i []) hi
    · rw [setL_other e] at hi ⊢; exact ⟨e, hi, rfl⟩
  refine ⟨v, F.filter (fun i => decide (i ≠ β c)), e1, h.split _ _ e2 ?_ ?_ ?_ ?_⟩
  · refine ⟨hS.vm, hS.keys, fun hn => hS.nb (List.mem_filter.1 hn).1, fun i hi => hS.lt i (List.mem_filter.1 hi).1, fun i hi => hS.range i (hL i hi).2.1, β, fun i hi => ?_, fun i j hi hj e => h2 i j (hL i hi).2.1 (hL j hj).2.1 e⟩
    obtain ⟨a1, a2, a3⟩ := hL i hi
    rw [a3]
    obtain ⟨v', b1, b2, b3, b4⟩ := h1 i a2
    exact ⟨v', b1, b2, b3, List.mem_filter.2 ⟨b4, by simpa using fun e => a1 (h2 i c a2 hc e)⟩⟩
  · intro i hi
    have : i = β c := by simpa [tRow, e3] using hi
    subst this
    simp [tCh, e4]
  · intro i hi
    rcases List.mem_cons.1 hi with rfl | hi
    · simp [tCh]
    · exact List.mem_cons_of_mem _ (List.mem_filter.1 hi).1
  · intro i hi hj
    have : i = β c := by simpa [tRow, e3] using hi
    subst this
    rcases List.mem_cons.1 hj with e | hj
    · exact hS.nb (e ▸ e4)
    · have := (List.mem_filter.1 hj).2
      simp at this
/-- A row goes in, its value being there. -/
theorem OwnT.putRow {v : Value} {n : Nat} {X : List OwD} (h : OwnT H A (tRow 31 3 v n (X.flatMap ownC) :: tCh nb F m L :: R) w) (c : Int) (hc : L c = []) (hX : X ≠ []) (hv : m c = some v) (hw : wfV c) : ∃ F', OwnT H A (tCh nb F' m (setL L c X) :: R) w := by
  have hr := h.r0
  have hS : ChS w nb F m L := h.all.2.1
  have hn : n = X.length := by have := hr.1; rw [flat_len] at this; omega
  subst hn
  have hpos : 0 < X.length := List.length_pos_iff.2 hX
  obtain ⟨g, cap, cur, rfl, _⟩ := row_some hr hpos
  obtain ⟨β, h1, h2⟩ := hS.rows
  have hgF : g ∉ nb :: F := (List.pairwise_cons.1 h.diff).1 (tCh nb F m L) (by simp) g (by simp [tRow, Value.ownBlock])
  have hL : ∀ i, i ≠ c → setL L c X i = L i := fun i hi => setL_other hi
  obtain ⟨γ, g1, g2⟩ : ∃ γ : Int → Nat, γ c = g ∧ ∀ i, i ≠ c → γ i = β i := ⟨fun i => if i = c then g else β i, if_pos rfl, fun i hi => if_neg hi⟩
  refine ⟨g :: F, h.join (tCh nb (g :: F) m (setL L c X)) ?_ ?_⟩
  · refine ⟨hS.vm, hS.keys, ?_, ?_, ?_, γ, ?_, ?_⟩
    · intro hn
      rcases List.mem_cons.1 hn with e | hn
      · exact hgF (by rw [← e]; simp)
      · exact hS.nb hn
    · intro i hi
      rcases List.mem_cons.1 hi with rfl | hi
      · exact (hr.lt _ rfl).2
      · exact hS.lt i hi
    · intro i hi
      by_cases e : i = c
      · subst e; exact hS.keys i hw (by rw [hv]; rfl)
      · rw [hL i e] at hi; exact hS.range i hi
    · intro i hi
      by_cases e : i = c
      · subst e
        rw [setL_same, g1]
        exact ⟨_, hv, hr, rfl, by simp⟩
      · rw [hL i e] at hi ⊢
        rw [g2 i e]
        obtain ⟨v', b1, b2, b3, b4⟩ := h1 i hi
        exact ⟨v', b1, b2, b3, by simp [b4]⟩
    · intro i j hi hj e
      by_cases ei : i = c
      · by_cases ej : j = c
        · rw [ei, ej]
        · rw [ei, g1, g2 j ej] at e
          rw [hL j ej] at hj
          obtain ⟨_, _, _, _, b4⟩ := h1 j hj
          exact absurd (by rw [e]; simp [b4]) hgF
      · by_cases ej : j = c
        · rw [g2 i ei, ej, g1] at e
          rw [hL i ei] at hi
          obtain ⟨_, _, _, _, b4⟩ := h1 i hi
          exact absurd (by rw [← e]; simp [b4]) hgF
        · rw [g2 i ei, g2 j ej] at e
          rw [hL i ei] at hi
          rw [hL j ej] at hj
          exact h2 i j hi hj e
  · intro i hi
    rcases List.mem_cons.1 hi with rfl | hi
    · exact .inr (by simp [tCh])
    · rcases List.mem_cons.1 hi with rfl | hi
      · exact .inl (by simp [tRow, Value.ownBlock])
      · exact .inr (by simp [tCh, hi])
/-- The map of another world: only the map's block has turned. -/
theorem OwnT.chMap {m' : Int → Option Value} (h : OwnT H A (tCh nb F m L :: R) w) (hv : VM w' nb 1024 m') (hC : Chg [nb] w w') (hk : ∀ c, wfV c → (m' c).isSome = true → 1 ≤ c ∧ c ≤ 1023) (hm : ∀ c, L c ≠ [] → m' c = m c) : OwnT H A (tCh nb F m' L :: R) w' := by
  have hS := h.ch
  obtain ⟨β, h1, h2⟩ := hS.rows
  refine h.call hC (fun i hi => by simp at hi; subst hi; simp [tCh]) (tCh nb F m' L) ⟨hv.tight 1 1023 (fun i hi hs => by have := hk i hi hs; omega), hk, hS.nb, fun i hi => Nat.lt_of_lt_of_le (hS.lt i hi) hC.size, hS.range, β, fun c hc => ?_, h2⟩ (fun i hi => .inl hi)
  obtain ⟨v, e1, e2, e3, e4⟩ := h1 c hc
  refine ⟨v, (hm c hc).trans e1, (tRow 31 3 v (L c).length ((L c).flatMap ownC)).keep w w' hC.size (fun i hi => ?_) e2, e3, e4⟩
  have : i = β c := by simpa [tRow, e3] using hi
  subst this
  exact hC.block _ (hS.lt _ e4) (by simp; intro e; exact hS.nb (e ▸ e4))
end
end Go.Proofs.Ytdpohbaeopidmaa
