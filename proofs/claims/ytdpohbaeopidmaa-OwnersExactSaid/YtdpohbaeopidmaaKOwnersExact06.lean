/- slices.Insert of one element, at structs of three ints. -/
import Derived.Test.YtdpohbaeopidmaaKOwnersExact02
import Derived.Test.YtdpohbaeopidmaaKOwnersExact03
import Derived.Lib.Overlaps
import Derived.Deep.CutBlock
namespace Go.Proofs.Ytdpohbaeopidmaa
set_option linter.unusedVariables false
set_option linter.unusedSimpArgs false
open Go.RowKit

abbrev zOwn : Value := .agg #[.int .i64 0, .int .i64 0, .int .i64 0]
theorem info_own : ∃ i : TypeInfo, Try.prog.info? 31 = some i ∧ i.zero = some zOwn ∧ i.size = 3 ∧ i.bytes = 24 := by
  have h : (Try.prog.info? 31).map (fun i => (i.zero, i.size, i.bytes)) = some (some zOwn, 3, 24) := by kernel_rfl
  exact info_parts h
theorem zeros_own (n : Nat) : ∀ v ∈ (Builtin.zeroCells zOwn.cells n).toList, v.oneCell' = true := by
  intro v hv
  simp only [Builtin.zeroCells, Array.toList_map, List.mem_map, Array.toList_range] at hv
  obtain ⟨i, hi, rfl⟩ := hv
  have h3 : i % 3 < 3 := Nat.mod_lt _ (by omega)
  show ((#[.int .i64 0, .int .i64 0, .int .i64 0] : Array Value)[i % 3]!).oneCell' = true
  generalize i % 3 = k at h3
  match k, h3 with
  | 0, _ => rfl
  | 1, _ => rfl
  | 2, _ => rfl

set_option maxRecDepth 100000 in
set_option maxHeartbeats 4000000 in
/-- There is room. -/
theorem insert_room (g n cap i vb : Nat) (cur : Array Value) (cs : List Value) (w : World) (hg : Blk w g 31 cur) (hv : Blk w vb 31 cs.toArray) (hne : vb ≠ g) (hi : i < n) (hroom : n + 1 ≤ cap) (hc : cap ≤ maxLen) (hcur : cur.size = cap * 3) (hcs : cs.length = 3)
    (h1 : ∀ u ∈ cur.toList.take (n * 3), u.oneCell' = true) (h2 : ∀ u ∈ cs, u.oneCell' = true) :
    Calls Try.prog 68 #[.slice (some ⟨g, 0, none⟩) n cap, .int .i64 i, .slice (some ⟨vb, 0, none⟩) 1 1] w fun e w' =>
      e = .returned (.slice (some ⟨g, 0, none⟩) (n + 1) cap) ∧ Blk w' g 31 (splice (splice cur.toList ((i + 1) * 3) ((cur.toList.take (n * 3)).drop (i * 3))) (i * 3) cs).toArray ∧ Chg [g] w w' := by
  unfold maxLen at hc
  obtain ⟨ti, hi0, hz, hsz, hby⟩ := info_own
  have hshape : ∀ W b cs', Blk W b 31 cs' → W.shape? b = some (31, cs'.size) := fun W b cs' h => by
    unfold Blk at h
    simp [World.shape?, h]
  have hov : ∀ W lb cb, Blk W vb 31 cs.toArray → Blk W g 31 cur → (callFunc 96 #[.slice (some ⟨vb, 0, none⟩) 1 1, .slice (some ⟨g, (i + 1) * 3, none⟩) lb cb]).run Try.prog W = .ok (.value (.bool false)) W := fun W lb cb hb1 hb2 => by
    rw [run_callFunc_extern Try.func96 (by kernel_rfl) (by kernel_rfl) (by kernel_rfl) (e := Extern.SlicesOverlaps.overlaps #[42, 42] #[4]) (by kernel_rfl),
      Lib.run_overlaps_apart W 42 4 31 Try.underlying42 3 (fun _ => by kernel_rfl) ⟨vb, 0, none⟩ ⟨g, (i + 1) * 3, none⟩ 1 1 lb cb hne 31 31 _ _ (hshape _ _ _ hb1) (hshape _ _ _ hb2) (by omega) (hb1.frozen 0) (hb1.frozen _)]
    rfl
  have hz1 : (cur.toList.take (n * 3)).length = n * 3 := by rw [List.length_take, Array.length_toList, hcur]; omega
  obtain ⟨mv, hmv⟩ : ∃ mv, (cur.toList.take (n * 3)).drop (i * 3) = mv := ⟨_, rfl⟩
  have hml : mv.length = (n - i) * 3 := by rw [← hmv, List.length_drop, hz1]; omega
  have hm1 : ∀ u ∈ mv, u.oneCell' = true := fun u hu => h1 u (by rw [← hmv] at hu; exact List.mem_of_mem_drop hu)
  rw [hmv]
  have hcur1 : (splice cur.toList ((i + 1) * 3) mv).length = cap * 3 := by rw [length_splice _ _ _ (by have := hcur; simp only [Array.length_toList]; omega), Array.length_toList, hcur]
  obtain ⟨cur1, hcur1e⟩ : ∃ cur1, splice cur.toList ((i + 1) * 3) mv = cur1 := ⟨_, rfl⟩
  rw [hcur1e] at hcur1 ⊢
  have HM := Lib.hid hmv
  have HCE := Lib.hid hcur1e
  have HM1 := Lib.hid hm1
  clear hmv hcur1e hm1
  go_enter Try.func68, Try.ntmps68
  go_upto_region 15 with fail
  have hwi : IntKind.i64.wrap ((i : Int) + 1) = (i : Int) + 1 := IntWalk.i64_in _ (by omega)
  clear hov
  refine wp_typed (R := Ext) (w0 := w) [[], [], [], [1, 2], [0, 1, 2, 3], [], [], [5, 6], [0, 1, 2, 3, 4, 5, 6, 7]] [69, 70, 71, 72, 73, 74, 75, 76] Ext.refl (fun _ _ _ => Ext.trans) (Ext.drew _) (by kernel_rfl) ?_
  apply Build.det 69 Ext.refl (by rfl) (by rfl) rfl
  case h =>   -- 0: t69 := Op.move (tmp 0)
    intro ax wx hE hR hF
    have e0 : ax.eval (.tmp 0) = .slice (some ⟨g, 0, none⟩) (n + 1) cap := hE.eval 0 (by rfl) rfl
    simp [go_sem, BigFrame.eval_const, BigFrame.eval_global, BigFrame.eval_func, ↓IntWalk.iteOmega, ev e0, hwi]
    with_reducible rfl
  apply Build.det 70 Ext.refl (by rfl) (by rfl) rfl
  case h =>   -- 1: t70 := Op.move (tmp 1)
    intro ax wx hE hR hF
    have e1 : ax.eval (.tmp 1) = .int .i64 i := hE.eval 1 (by rfl) rfl
    simp [go_sem, BigFrame.eval_const, BigFrame.eval_global, BigFrame.eval_func, ↓IntWalk.iteOmega, ev e1, hwi]
    with_reducible rfl
  apply Build.det 71 Ext.refl (by rfl) (by rfl) rfl
  case h =>   -- 2: t71 := Op.move (tmp 7)
    intro ax wx hE hR hF
    have e7 : ax.eval (.tmp 7) = .int .i64 1 := hE.eval 7 (by rfl) rfl
    simp [go_sem, BigFrame.eval_const, BigFrame.eval_global, BigFrame.eval_func, ↓IntWalk.iteOmega, ev e7, hwi]
    with_reducible rfl
  apply Build.det 72 Ext.refl (by rfl) (by rfl) rfl
  case h =>   -- 3: t72 := Op.binOp BinOp.add 3 (tmp 70) (tmp 71) 3
    intro ax wx hE hR hF
    have e70 : ax.eval (.tmp 70) = _ := hF 1 (det 70 _) (by decide) (.tail _ (.head _))
    have e71 : ax.eval (.tmp 71) = _ := hF 2 (det 71 _) (by decide) (.head _)
    simp [go_sem, BigFrame.eval_const, BigFrame.eval_global, BigFrame.eval_func, ↓IntWalk.iteOmega, ev e70, ev e71, hwi]
    with_reducible rfl
  apply Build.det 73 Ext.refl (by rfl) (by rfl) rfl
  case h =>   -- 4: t73 := Op.slice 42 (tmp 69) (some (tmp 72)) none none
    intro ax wx hE hR hF
    have e69 : ax.eval (.tmp 69) = _ := hF 0 (det 69 _) (by decide) (.tail _ (.tail _ (.tail _ (.head _))))
    have e72 : ax.eval (.tmp 72) = _ := hF 3 (det 72 _) (by decide) (.head _)
    simp [go_sem, BigFrame.eval_const, BigFrame.eval_global, BigFrame.eval_func, ↓IntWalk.iteOmega, ev e69, ev e72, hwi]
    with_reducible rfl
  apply Build.det 74 Ext.refl (by rfl) (by rfl) rfl
  case h =>   -- 5: t74 := Op.move (tmp 0)
    intro ax wx hE hR hF
    have e0 : ax.eval (.tmp 0) = .slice (some ⟨g, 0, none⟩) (n + 1) cap := hE.eval 0 (by rfl) rfl
    simp [go_sem, BigFrame.eval_const, BigFrame.eval_global, BigFrame.eval_func, ↓IntWalk.iteOmega, ev e0, hwi]
    with_reducible rfl
  apply Build.det 75 Ext.refl (by rfl) (by rfl) rfl
  case h =>   -- 6: t75 := Op.move (tmp 1)
    intro ax wx hE hR hF
    have e1 : ax.eval (.tmp 1) = .int .i64 i := hE.eval 1 (by rfl) rfl
    simp [go_sem, BigFrame.eval_const, BigFrame.eval_global, BigFrame.eval_func, ↓IntWalk.iteOmega, ev e1, hwi]
    with_reducible rfl
  apply Build.det 76 Ext.refl (by rfl) (by rfl) rfl
  case h =>   -- 7: t76 := Op.slice 42 (tmp 74) (some (tmp 75)) none none
    intro ax wx hE hR hF
    have e74 : ax.eval (.tmp 74) = _ := hF 5 (det 74 _) (by decide) (.tail _ (.head _))
    have e75 : ax.eval (.tmp 75) = _ := hF 6 (det 75 _) (by decide) (.head _)
    simp [go_sem, BigFrame.eval_const, BigFrame.eval_global, BigFrame.eval_func, ↓IntWalk.iteOmega, ev e74, ev e75, hwi]
    with_reducible rfl
  apply Build.stop
  refine ⟨by kernel_rfl, .inr ⟨by kernel_rfl, _, rfl, rfl, ?_⟩⟩
  intro ax w1 hE R1 hF
  have e69 : ax.eval (.tmp 69) = _ := hF 0 (det 69 _) (.tail _ (.tail _ (.tail _ (.tail _ (.tail _ (.tail _ (.tail _ (.head _))))))))
  have e70 : ax.eval (.tmp 70) = _ := hF 1 (det 70 _) (.tail _ (.tail _ (.tail _ (.tail _ (.tail _ (.tail _ (.head _)))))))
  have e71 : ax.eval (.tmp 71) = _ := hF 2 (det 71 _) (.tail _ (.tail _ (.tail _ (.tail _ (.tail _ (.head _))))))
  have e72 : ax.eval (.tmp 72) = _ := hF 3 (det 72 _) (.tail _ (.tail _ (.tail _ (.tail _ (.head _)))))
  have e73 : ax.eval (.tmp 73) = _ := hF 4 (det 73 _) (.tail _ (.tail _ (.tail _ (.head _))))
  have e74 : ax.eval (.tmp 74) = _ := hF 5 (det 74 _) (.tail _ (.tail _ (.head _)))
  have e75 : ax.eval (.tmp 75) = _ := hF 6 (det 75 _) (.tail _ (.head _))
  have e76 : ax.eval (.tmp 76) = _ := hF 7 (det 76 _) (.head _)
  rw [AllEq.frame (D := [69, 70, 71, 72, 73, 74, 75, 76]) (AllEq.cons e69 (AllEq.cons e70 (AllEq.cons e71 (AllEq.cons e72 (AllEq.cons e73 (AllEq.cons e74 (AllEq.cons e75 (AllEq.cons e76 (AllEq.nil))))))))) hE rfl]
  clear hF hE e69 e70 e71 e72 e73 e74 e75 e76
  simp only [List.foldl_cons, List.foldl_nil, Act.put, List.setIfInBounds_toArray, List.set_cons_succ, List.set_cons_zero]
  have hg1 := hg.ext R1
  have hv1 := hv.ext R1
  have hmc : ∀ j v, mv[j]? = some v → w1.cell? ((⟨g, i * 3, none⟩ : Addr).add j) = some v := fun j v hj => by
    have hadd : (⟨g, i * 3, none⟩ : Addr).add j = ⟨g, i * 3 + j, none⟩ := by unfold Addr.add; split <;> simp_all
    rw [hadd, hg1.cell]
    have hjl : j < mv.length := (List.getElem?_eq_some_iff.1 hj).1
    rw [← HM.out, List.getElem?_drop, List.getElem?_take_of_lt (by omega)] at hj
    simpa using hj
  refine wp_copy_run _ _ _ _ rfl _ _ rfl rfl (run_copy_k w1 _ _ _ 31 ti 3 Try.underlying42 hi0 hsz g ((i + 1) * 3) (n - i) (cap - (i + 1)) ⟨g, i * 3, none⟩ (n + 1 - i) (cap - i) cur 31 mv hg1 (by rw [hml]; simp only [Nat.min_def]; split <;> omega) hmc (by rw [hml, hcur]; omega) HM1.out) ?_
  rw [HCE.out]
  have hg2 := hg1.setRow cur1.toArray
  have hc2 := chg_setRow w1 g cur1.toArray
  have hv2 := hc2.blk hv1 (by simpa using hne)
  have hc02 := (Chg.of_ext R1 [g]).trans hc2
  generalize w1.setRow g cur1.toArray = w2 at hg2 hv2 hc02 ⊢
  have hcc : ∀ j v, cs[j]? = some v → w2.cell? ((⟨vb, 0, none⟩ : Addr).add j) = some v := fun j v hj => by
    have hadd : (⟨vb, 0, none⟩ : Addr).add j = ⟨vb, j, none⟩ := by unfold Addr.add; split <;> simp_all
    rw [hadd, hv2.cell]
    simpa using hj
  have hr2 := fun ty => run_copy_k (P := Try.prog) w2 42 42 ty 31 ti 3 Try.underlying42 hi0 hsz g (i * 3) (n + 1 - i) (cap - i) ⟨vb, 0, none⟩ 1 1 cur1.toArray 31 cs hg2 (by rw [hcs]; simp only [Nat.min_def]; split <;> omega) hcc (by simp [hcur1, hcs]; omega) h2
  have HR := Lib.hid (And.intro hg2 hc02)
  have HR2 := Lib.hid hr2
  clear hr2 hcc hg2 hv2 hc02 hc2 hg1 hv1 hmc hml hz1 R1 hg hv h1 h2 hcs hcur hcur1 hshape
  go_wp2_with ((with_reducible refine wpList_copy_run (o := ⟨some 82, _, _, _, _, _⟩) rfl _ _ _ _ rfl _ _ rfl rfl (HR2.out _) ?_))
  go_ret
  exact ⟨rfl, HR.out.1.setRow _, HR.out.2.trans (chg_setRow _ _ _)⟩

set_option maxRecDepth 100000 in
set_option maxHeartbeats 4000000 in
/-- There is no room, and the place is not the end. -/
theorem insert_grow (g n cap i vb : Nat) (cur : Array Value) (cs : List Value) (w : World) (hg : Blk w g 31 cur) (hv : Blk w vb 31 cs.toArray) (hi : i < n) (hnc : n ≤ cap) (hroom : cap < n + 1) (hb : n ≤ 1000000000000) (hcur : cur.size = cap * 3) (hcs : cs.length = 3)
    (h1 : ∀ u ∈ cur.toList.take (n * 3), u.oneCell' = true) (h2 : ∀ u ∈ cs, u.oneCell' = true) :
    Calls Try.prog 68 #[.slice (some ⟨g, 0, none⟩) n cap, .int .i64 i, .slice (some ⟨vb, 0, none⟩) 1 1] w fun e w' => ∃ cap' L0,
      e = .returned (.slice (some ⟨w.heap.size, 0, none⟩) (n + 1) cap') ∧ n + 1 ≤ cap' ∧ cap' ≤ maxLen ∧ L0.length = cap' * 3 ∧ L0.take (i * 3) = cur.toList.take (i * 3) ∧
      Blk w' w.heap.size 31 (splice (splice L0 (i * 3) cs) ((i + 1) * 3) ((cur.toList.take (n * 3)).drop (i * 3))).toArray ∧ Ext w w' := by
  obtain ⟨ti, hi0, hz, hsz, hby⟩ := info_own
  have hz1 : (cur.toList.take (n * 3)).length = n * 3 := by rw [List.length_take, Array.length_toList, hcur]; omega
  obtain ⟨mv, hmv⟩ : ∃ mv, (cur.toList.take (n * 3)).drop (i * 3) = mv := ⟨_, rfl⟩
  have hml : mv.length = (n - i) * 3 := by rw [← hmv, List.length_drop, hz1]; omega
  have hm1 : ∀ u ∈ mv, u.oneCell' = true := fun u hu => h1 u (by rw [← hmv] at hu; exact List.mem_of_mem_drop hu)
  rw [hmv]
  obtain ⟨olds, holds⟩ : ∃ olds, cur.toList.take (i * 3) = olds := ⟨_, rfl⟩
  have hol : olds.length = i * 3 := by rw [← holds, List.length_take, Array.length_toList, hcur]; omega
  rw [holds]
  have cellsOf : ∀ W, Blk W g 31 cur → (∀ j v, olds[j]? = some v → W.cell? ((⟨g, 0, none⟩ : Addr).add j) = some v) ∧ (∀ j v, mv[j]? = some v → W.cell? ((⟨g, i * 3, none⟩ : Addr).add j) = some v) := fun W hW => by
    constructor
    · intro j v hj
      have hadd : (⟨g, 0, none⟩ : Addr).add j = ⟨g, j, none⟩ := by unfold Addr.add; split <;> simp_all
      rw [hadd, hW.cell]
      have hjl : j < olds.length := (List.getElem?_eq_some_iff.1 hj).1
      rw [← holds, List.getElem?_take_of_lt (by omega)] at hj
      simpa using hj
    · intro j v hj
      have hadd : (⟨g, i * 3, none⟩ : Addr).add j = ⟨g, i * 3 + j, none⟩ := by unfold Addr.add; split <;> simp_all
      rw [hadd, hW.cell]
      have hjl : j < mv.length := (List.getElem?_eq_some_iff.1 hj).1
      rw [← hmv, List.getElem?_drop, List.getElem?_take_of_lt (by omega)] at hj
      simpa using hj
  have hap := fun ty => Lib.run_append_grow_zeros (P := Try.prog) w 42 3 ty 31 ti zOwn .i64 .i64 Try.underlying42 Try.underlying3 hi0 hz (some ⟨g, 0, none⟩) i cap olds
    (run_firstCells_some (P := Try.prog) w.drew ti.size i ⟨g, 0, none⟩ i cap olds (by rw [hsz]; exact hol) (cellsOf w.drew hg.drew).1) (n + 1 - i) (by omega) (by omega) (by omega) (by omega) (by rw [hby]; omega)
    (growslice_fits (by omega) (by rw [hby]; omega))
  rw [show i + (n + 1 - i) = n + 1 by omega] at hap
  have hc1 := grownCap_ge w (n + 1) cap 31
  have hc2 := grownCap_le_maxLen w (n + 1) cap 31 (by unfold maxLen; omega)
  obtain ⟨cap', hcap'⟩ : ∃ cap', grownCap w (n + 1) cap 31 = cap' := ⟨_, rfl⟩
  rw [hcap'] at hap hc1 hc2
  obtain ⟨A0, hA0⟩ : ∃ A0, olds.toArray ++ Builtin.zeroCells zOwn.cells (n + 1 - i) ++ Builtin.zeroCells zOwn.cells (cap' - (n + 1)) = A0 := ⟨_, rfl⟩
  rw [hA0] at hap
  have hl0 : A0.toList.length = cap' * 3 := by
    rw [← hA0]
    simp only [Array.toList_append, List.length_append, Array.length_toList, size_zeroCells]
    simp only [Value.cells, List.size_toArray, List.length_cons, List.length_nil, hol]
    omega
  have ht0 : A0.toList.take (i * 3) = olds := by
    rw [← hA0]
    simp only [Array.toList_append, List.append_assoc]
    rw [List.take_append_of_le_length (by omega), List.take_of_length_le (by omega)]
  have hcap2 : cap' ≤ 9223372036854775807 := hc2
  have hwn : IntKind.i64.wrap ((n : Int) + 1) = (n : Int) + 1 := IntWalk.i64_in _ (by omega)
  have hwi : IntKind.i64.wrap ((i : Int) + 1) = (i : Int) + 1 := IntWalk.i64_in _ (by omega)
  have hwk : ((n : Int) + 1 - (i : Int)) = ((n + 1 - i : Nat) : Int) := by omega
  have HAP := Lib.hid hap
  have HC := Lib.hid cellsOf
  have HM1 := Lib.hid hm1
  have HL := Lib.hid (And.intro hl0 ht0)
  have H2 := Lib.hid h2
  have HLEN := Lib.hid (And.intro hml hcs)
  have HG := Lib.hid (And.intro hg hv)
  clear hap cellsOf hm1 hl0 ht0 hA0 holds hol hmv h1 h2 hml hcs hg hv hz1 hcur hcap'
  go_enter Try.func68, Try.ntmps68
  go_upto_region 10 with (with_reducible refine wpList_append_run (o := ⟨some 40, _, _, _, _, _⟩) rfl _ _ _ _ rfl _ _ rfl rfl (HAP.out _) ?_)
  have hN : Blk (w.alloc (.cells A0 31)).drew w.heap.size 31 A0 := (Blk.new w _ _).drew
  have hE : Ext w (w.alloc (.cells A0 31)).drew := (Ext.alloc w _).trans (Ext.drew _)
  generalize (w.alloc (.cells A0 31)).drew = w1 at hN hE ⊢
  have hlt := HG.out.1.lt
  have hltv := HG.out.2.lt
  obtain ⟨g', hg'⟩ : ∃ g', w.heap.size = g' := ⟨_, rfl⟩
  rw [hg'] at hN hlt hltv ⊢
  have hcc : ∀ j v, cs[j]? = some v → w1.cell? ((⟨vb, 0, none⟩ : Addr).add j) = some v := fun j v hj => by
    have hadd : (⟨vb, 0, none⟩ : Addr).add j = ⟨vb, j, none⟩ := by unfold Addr.add; split <;> simp_all
    rw [hadd, (HG.out.2.ext hE).cell]
    simpa using hj
  have hr1 := fun ty => run_copy_k (P := Try.prog) w1 42 42 ty 31 ti 3 Try.underlying42 hi0 hsz g' (i * 3) (n + 1 - i) (cap' - i) ⟨vb, 0, none⟩ 1 1 A0 31 cs hN (by rw [HLEN.out.2]; simp only [Nat.min_def]; split <;> omega) hcc (by have := HL.out.1; rw [Array.length_toList] at this; have := HLEN.out.2; omega) H2.out
  obtain ⟨cur1, hcur1⟩ : ∃ cur1, splice A0.toList (i * 3) cs = cur1 := ⟨_, rfl⟩
  have hcl1 : cur1.length = cap' * 3 := by rw [← hcur1, length_splice _ _ _ (by have := HL.out.1; have := HLEN.out.2; omega)]; exact HL.out.1
  rw [hcur1] at hr1
  have HR1 := Lib.hid hr1
  have HCU := Lib.hid hcur1
  have HN := Lib.hid (And.intro hN hE)
  have HGE := Lib.hid hg'
  clear hr1 hcc hN hE hcur1 hg' HAP
  go_upto_region 11 with (with_reducible refine wpList_copy_run (o := ⟨some 45, _, _, _, _, _⟩) rfl _ _ _ _ rfl _ _ rfl rfl (HR1.out _) ?_)
  have HN2 := Lib.hid (And.intro (HN.out.1.setRow cur1.toArray) (chg_setRow w1 g' cur1.toArray))
  generalize w1.setRow g' cur1.toArray = w2 at HN2 ⊢
  clear HR1
  have hg2 := HN2.out.2.blk (HG.out.1.ext HN.out.2) (by simp; omega)
  have HG2 := Lib.hid hg2
  clear hg2
  refine wp_typed (R := Ext) (w0 := w2) [[], [], [], [1, 2], [0, 1, 2, 3], [], [], [5, 6], [0, 1, 2, 3, 4, 5, 6, 7]] [46, 47, 48, 49, 50, 51, 52, 53] Ext.refl (fun _ _ _ => Ext.trans) (Ext.drew _) (by kernel_rfl) ?_
  apply Build.det 46 Ext.refl (by rfl) (by rfl) rfl
  case h =>   -- 0: t46 := Op.move (tmp 9)
    intro ax wx hE hR hF
    have e9 : ax.eval (.tmp 9) = .slice (some ⟨g', 0, none⟩) (n + 1) cap' := hE.eval 9 (by rfl) rfl
    simp [go_sem, BigFrame.eval_const, BigFrame.eval_global, BigFrame.eval_func, ↓IntWalk.iteOmega, ev e9, hwi]
    with_reducible rfl
  apply Build.det 47 Ext.refl (by rfl) (by rfl) rfl
  case h =>   -- 1: t47 := Op.move (tmp 1)
    intro ax wx hE hR hF
    have e1 : ax.eval (.tmp 1) = .int .i64 i := hE.eval 1 (by rfl) rfl
    simp [go_sem, BigFrame.eval_const, BigFrame.eval_global, BigFrame.eval_func, ↓IntWalk.iteOmega, ev e1, hwi]
    with_reducible rfl
  apply Build.det 48 Ext.refl (by rfl) (by rfl) rfl
  case h =>   -- 2: t48 := Op.move (tmp 7)
    intro ax wx hE hR hF
    have e7 : ax.eval (.tmp 7) = .int .i64 1 := hE.eval 7 (by rfl) rfl
    simp [go_sem, BigFrame.eval_const, BigFrame.eval_global, BigFrame.eval_func, ↓IntWalk.iteOmega, ev e7, hwi]
    with_reducible rfl
  apply Build.det 49 Ext.refl (by rfl) (by rfl) rfl
  case h =>   -- 3: t49 := Op.binOp BinOp.add 3 (tmp 47) (tmp 48) 3
    intro ax wx hE hR hF
    have e47 : ax.eval (.tmp 47) = _ := hF 1 (det 47 _) (by decide) (.tail _ (.head _))
    have e48 : ax.eval (.tmp 48) = _ := hF 2 (det 48 _) (by decide) (.head _)
    simp [go_sem, BigFrame.eval_const, BigFrame.eval_global, BigFrame.eval_func, ↓IntWalk.iteOmega, ev e47, ev e48, hwi]
    with_reducible rfl
  apply Build.det 50 Ext.refl (by rfl) (by rfl) rfl
  case h =>   -- 4: t50 := Op.slice 42 (tmp 46) (some (tmp 49)) none none
    intro ax wx hE hR hF
    have e46 : ax.eval (.tmp 46) = _ := hF 0 (det 46 _) (by decide) (.tail _ (.tail _ (.tail _ (.head _))))
    have e49 : ax.eval (.tmp 49) = _ := hF 3 (det 49 _) (by decide) (.head _)
    simp [go_sem, BigFrame.eval_const, BigFrame.eval_global, BigFrame.eval_func, ↓IntWalk.iteOmega, ev e46, ev e49, hwi]
    with_reducible rfl
  apply Build.det 51 Ext.refl (by rfl) (by rfl) rfl
  case h =>   -- 5: t51 := Op.move (tmp 0)
    intro ax wx hE hR hF
    have e0 : ax.eval (.tmp 0) = .slice (some ⟨g, 0, none⟩) n cap := hE.eval 0 (by rfl) rfl
    simp [go_sem, BigFrame.eval_const, BigFrame.eval_global, BigFrame.eval_func, ↓IntWalk.iteOmega, ev e0, hwi]
    with_reducible rfl
  apply Build.det 52 Ext.refl (by rfl) (by rfl) rfl
  case h =>   -- 6: t52 := Op.move (tmp 1)
    intro ax wx hE hR hF
    have e1 : ax.eval (.tmp 1) = .int .i64 i := hE.eval 1 (by rfl) rfl
    simp [go_sem, BigFrame.eval_const, BigFrame.eval_global, BigFrame.eval_func, ↓IntWalk.iteOmega, ev e1, hwi]
    with_reducible rfl
  apply Build.det 53 Ext.refl (by rfl) (by rfl) rfl
  case h =>   -- 7: t53 := Op.slice 42 (tmp 51) (some (tmp 52)) none none
    intro ax wx hE hR hF
    have e51 : ax.eval (.tmp 51) = _ := hF 5 (det 51 _) (by decide) (.tail _ (.head _))
    have e52 : ax.eval (.tmp 52) = _ := hF 6 (det 52 _) (by decide) (.head _)
    simp [go_sem, BigFrame.eval_const, BigFrame.eval_global, BigFrame.eval_func, ↓IntWalk.iteOmega, ev e51, ev e52, hwi]
    with_reducible rfl
  apply Build.stop
  refine ⟨by kernel_rfl, .inr ⟨by kernel_rfl, _, rfl, rfl, ?_⟩⟩
  intro ax w3 hE R3 hF
  have e46 : ax.eval (.tmp 46) = _ := hF 0 (det 46 _) (.tail _ (.tail _ (.tail _ (.tail _ (.tail _ (.tail _ (.tail _ (.head _))))))))
  have e47 : ax.eval (.tmp 47) = _ := hF 1 (det 47 _) (.tail _ (.tail _ (.tail _ (.tail _ (.tail _ (.tail _ (.head _)))))))
  have e48 : ax.eval (.tmp 48) = _ := hF 2 (det 48 _) (.tail _ (.tail _ (.tail _ (.tail _ (.tail _ (.head _))))))
  have e49 : ax.eval (.tmp 49) = _ := hF 3 (det 49 _) (.tail _ (.tail _ (.tail _ (.tail _ (.head _)))))
  have e50 : ax.eval (.tmp 50) = _ := hF 4 (det 50 _) (.tail _ (.tail _ (.tail _ (.head _))))
  have e51 : ax.eval (.tmp 51) = _ := hF 5 (det 51 _) (.tail _ (.tail _ (.head _)))
  have e52 : ax.eval (.tmp 52) = _ := hF 6 (det 52 _) (.tail _ (.head _))
  have e53 : ax.eval (.tmp 53) = _ := hF 7 (det 53 _) (.head _)
  rw [AllEq.frame (D := [46, 47, 48, 49, 50, 51, 52, 53]) (AllEq.cons e46 (AllEq.cons e47 (AllEq.cons e48 (AllEq.cons e49 (AllEq.cons e50 (AllEq.cons e51 (AllEq.cons e52 (AllEq.cons e53 (AllEq.nil))))))))) hE rfl]
  clear hF hE e46 e47 e48 e49 e50 e51 e52 e53
  simp only [List.foldl_cons, List.foldl_nil, Act.put, List.setIfInBounds_toArray, List.set_cons_succ, List.set_cons_zero]
  have hg3 := HN2.out.1.ext R3
  have hl2 : cur1.toArray.size = cap' * 3 := by simpa using hcl1
  have hr3 := fun ty => run_copy_k (P := Try.prog) w3 42 42 ty 31 ti 3 Try.underlying42 hi0 hsz g' ((i + 1) * 3) (n - i) (cap' - (i + 1)) ⟨g, i * 3, none⟩ (n - i) (cap - i) cur1.toArray 31 mv hg3 (by rw [HLEN.out.1]; simp only [Nat.min_def]; split <;> omega) (HC.out _ (HG2.out.ext R3)).2 (by have := HLEN.out.1; omega) HM1.out
  refine wp_copy_run _ _ _ _ rfl _ _ rfl rfl (hr3 _) ?_
  have hg4 := hg3.setRow (splice cur1 ((i + 1) * 3) mv).toArray
  have hE4 : Ext w (w3.setRow g' (splice cur1 ((i + 1) * 3) mv).toArray) := by
    have h1 := (Chg.of_ext HN.out.2 [g']).trans HN2.out.2
    have h2 := h1.trans (Chg.of_ext R3 [g'])
    exact ((h2.trans (chg_setRow _ _ _)).mono (G := []) (fun j hj => .inr (by simp at hj; rw [HGE.out]; omega))).ext
  have HF := Lib.hid (And.intro hg4 hE4)
  clear hg4 hE4 hg3 hr3 hl2 R3
  generalize w3.setRow g' (splice cur1.toArray.toList ((i + 1) * 3) mv).toArray = w4 at HF ⊢
  go_wp2
  go_ret
  refine ⟨cap', A0.toList, ret_v (by rw [HGE.out]; rfl), hc1, hc2, HL.out.1, HL.out.2, ?_, HF.out.2⟩
  rw [HCU.out, HGE.out]
  exact HF.out.1
end Go.Proofs.Ytdpohbaeopidmaa
