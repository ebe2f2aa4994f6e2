/- slices.Insert of one element, at structs of two numbers. -/
import Derived.Test.YtbfgacmfjfbooaaKReachExact01
import Derived.Test.YtbfgacmfjfbooaaKReachExact00
import Derived.Lib.Overlaps
import Derived.Deep.CutBlock
import Derived.Test.YtbfgacmfjfbooaaKReachExact08
namespace Go.Proofs.Ytbfgacmfjfbooaa
attribute [local simp] BigFrame.eval_const BigFrame.eval_global BigFrame.eval_func
set_option linter.unusedVariables false
set_option linter.unusedSimpArgs false
open Go.RowKit

abbrev zPair : Value := .agg #[.int .u64 0, .int .u64 0]
theorem Z2e : ∃ i : TypeInfo, Try.prog.info? 103 = some i ∧ i.zero = some zPair ∧ i.size = 2 ∧ i.bytes = 16 := by
  have h : (Try.prog.info? 103).map (fun i => (i.zero, i.size, i.bytes)) = some (some zPair, 2, 16) := by kernel_rfl
  exact info_parts h
theorem Z89 (n : Nat) : ∀ v ∈ (Builtin.zeroCells zPair.cells n).toList, v.oneCell' = true := by
  intro v hv
  simp only [Builtin.zeroCells, Array.toList_map, List.mem_map, Array.toList_range] at hv
  obtain ⟨i, hi, rfl⟩ := hv
  have h3 : i % 2 < 2 := Nat.mod_lt _ (by omega)
  show ((#[.int .u64 0, .int .u64 0] : Array Value)[i % 2]!).oneCell' = true
  generalize i % 2 = k at h3
  match k, h3 with
  | 0, _ => rfl
  | 1, _ => rfl

set_option maxRecDepth 100000 in
set_option maxHeartbeats 4000000 in
/-- There is room. -/
theorem Z75 (g n cap i vb : Nat) (cur : Array Value) (cs : List Value) (w : World) (hg : Blk w g 103 cur) (hv : Blk w vb 103 cs.toArray) (hne : vb ≠ g) (hi : i < n) (hroom : n + 1 ≤ cap) (hc : cap ≤ maxLen) (hcur : cur.size = cap * 2) (hcs : cs.length = 2)
    (h1 : ∀ u ∈ cur.toList.take (n * 2), u.oneCell' = true) (h2 : ∀ u ∈ cs, u.oneCell' = true) :
    Calls Try.prog 92 #[.slice (some ⟨g, 0, none⟩) n cap, .int .i64 i, .slice (some ⟨vb, 0, none⟩) 1 1] w fun e w' =>
      e = .returned (.slice (some ⟨g, 0, none⟩) (n + 1) cap) ∧ Blk w' g 103 (splice (splice cur.toList ((i + 1) * 2) ((cur.toList.take (n * 2)).drop (i * 2))) (i * 2) cs).toArray ∧ Chg [g] w w' := by
  unfold maxLen at hc
  obtain ⟨ti, hi0, hz, hsz, hby⟩ := Z2e
  have hshape : ∀ W b cs', Blk W b 103 cs' → W.shape? b = some (103, cs'.size) := fun W b cs' h => by
    unfold Blk at h
    simp [World.shape?, h]
  have hov : ∀ W lb cb, Blk W vb 103 cs.toArray → Blk W g 103 cur → (callFunc 112 #[.slice (some ⟨vb, 0, none⟩) 1 1, .slice (some ⟨g, (i + 1) * 2, none⟩) lb cb]).run Try.prog W = .ok (.value (.bool false)) W := fun W lb cb hb1 hb2 => by
    rw [run_callFunc_extern Try.func112 (by kernel_rfl) (by kernel_rfl) (by kernel_rfl) (e := Extern.SlicesOverlaps.overlaps #[44, 44] #[4]) (by kernel_rfl),
      Lib.run_overlaps_apart W 44 4 103 Try.underlying44 2 (fun _ => by kernel_rfl) ⟨vb, 0, none⟩ ⟨g, (i + 1) * 2, none⟩ 1 1 lb cb hne 103 103 _ _ (hshape _ _ _ hb1) (hshape _ _ _ hb2) (by omega) (hb1.frozen 0) (hb1.frozen _)]
    rfl
  have hz1 : (cur.toList.take (n * 2)).length = n * 2 := by rw [List.length_take, Array.length_toList, hcur]; omega
  obtain ⟨mv, hmv⟩ : ∃ mv, (cur.toList.take (n * 2)).drop (i * 2) = mv := ⟨_, rfl⟩
  have hml : mv.length = (n - i) * 2 := by rw [← hmv, List.length_drop, hz1]; omega
  have hm1 : ∀ u ∈ mv, u.oneCell' = true := fun u hu => h1 u (by rw [← hmv] at hu; exact List.mem_of_mem_drop hu)
  rw [hmv]
  have hcur1 : (splice cur.toList ((i + 1) * 2) mv).length = cap * 2 := by rw [length_splice _ _ _ (by have := hcur; simp only [Array.length_toList]; omega), Array.length_toList, hcur]
  obtain ⟨cur1, hcur1e⟩ : ∃ cur1, splice cur.toList ((i + 1) * 2) mv = cur1 := ⟨_, rfl⟩
  rw [hcur1e] at hcur1 ⊢
  have HM := Lib.hid hmv
  have HCE := Lib.hid hcur1e
  have HM1 := Lib.hid hm1
  clear hmv hcur1e hm1
  go_enter Try.func92, Try.ntmps92
  go_upto_region 15 with fail
  have hwi : IntKind.i64.wrap ((i : Int) + 1) = (i : Int) + 1 := IntWalk.i64_in _ (by omega)
  clear hov
  refine Z0b (R := Ext) (w0 := w) [[], [], [], [1, 2], [0, 1, 2, 3], [], [], [5, 6], [0, 1, 2, 3, 4, 5, 6, 7]] [69, 70, 71, 72, 73, 74, 75, 76] Ext.refl (fun _ _ _ => Ext.trans) (Ext.drew _) (by kernel_rfl) ?_
  apply Build.det 69 Ext.refl (by rfl) (by rfl) rfl
  case h =>
    intro ax wx hE hR hF
    have e0 : ax.eval (.tmp 0) = .slice (some ⟨g, 0, none⟩) (n + 1) cap := hE.eval 0 (by rfl) rfl
    simp [go_sem, ↓IntWalk.iteOmega, ev e0, hwi]
    with_reducible rfl
  apply Build.det 70 Ext.refl (by rfl) (by rfl) rfl
  case h =>
    intro ax wx hE hR hF
    have e1 : ax.eval (.tmp 1) = .int .i64 i := hE.eval 1 (by rfl) rfl
    simp [go_sem, ↓IntWalk.iteOmega, ev e1, hwi]
    with_reducible rfl
  apply Build.det 71 Ext.refl (by rfl) (by rfl) rfl
  case h =>
    intro ax wx hE hR hF
    have e7 : ax.eval (.tmp 7) = .int .i64 1 := hE.eval 7 (by rfl) rfl
    simp [go_sem, ↓IntWalk.iteOmega, ev e7, hwi]
    with_reducible rfl
  apply Build.det 72 Ext.refl (by rfl) (by rfl) rfl
  case h =>
    intro ax wx hE hR hF
    have e70 := hF 1 (det 70 _) (by decide) (.tail _ (.head _))
    have e71 := hF 2 (det 71 _) (by decide) (.head _)
    simp [go_sem, ↓IntWalk.iteOmega, ev e70, ev e71, hwi]
    with_reducible rfl
  apply Build.det 73 Ext.refl (by rfl) (by rfl) rfl
  case h =>
    intro ax wx hE hR hF
    have e69 := hF 0 (det 69 _) (by decide) (.tail _ (.tail _ (.tail _ (.head _))))
    have e72 := hF 3 (det 72 _) (by decide) (.head _)
    simp [go_sem, ↓IntWalk.iteOmega, ev e69, ev e72, hwi]
    with_reducible rfl
  apply Build.det 74 Ext.refl (by rfl) (by rfl) rfl
  case h =>
    intro ax wx hE hR hF
    have e0 : ax.eval (.tmp 0) = .slice (some ⟨g, 0, none⟩) (n + 1) cap := hE.eval 0 (by rfl) rfl
    simp [go_sem, ↓IntWalk.iteOmega, ev e0, hwi]
    with_reducible rfl
  apply Build.det 75 Ext.refl (by rfl) (by rfl) rfl
  case h =>
    intro ax wx hE hR hF
    have e1 : ax.eval (.tmp 1) = .int .i64 i := hE.eval 1 (by rfl) rfl
    simp [go_sem, ↓IntWalk.iteOmega, ev e1, hwi]
    with_reducible rfl
  apply Build.det 76 Ext.refl (by rfl) (by rfl) rfl
  case h =>
    intro ax wx hE hR hF
    have e74 := hF 5 (det 74 _) (by decide) (.tail _ (.head _))
    have e75 := hF 6 (det 75 _) (by decide) (.head _)
    simp [go_sem, ↓IntWalk.iteOmega, ev e74, ev e75, hwi]
    with_reducible rfl
  apply Build.stop
  refine ⟨by kernel_rfl, .inr ⟨by kernel_rfl, _, rfl, rfl, ?_⟩⟩
  intro ax w1 hE R1 hF
  have e69 := hF 0 (det 69 _) (.tail _ (.tail _ (.tail _ (.tail _ (.tail _ (.tail _ (.tail _ (.head _))))))))
  have e70 := hF 1 (det 70 _) (.tail _ (.tail _ (.tail _ (.tail _ (.tail _ (.tail _ (.head _)))))))
  have e71 := hF 2 (det 71 _) (.tail _ (.tail _ (.tail _ (.tail _ (.tail _ (.head _))))))
  have e72 := hF 3 (det 72 _) (.tail _ (.tail _ (.tail _ (.tail _ (.head _)))))
  have e73 := hF 4 (det 73 _) (.tail _ (.tail _ (.tail _ (.head _))))
  have e74 := hF 5 (det 74 _) (.tail _ (.tail _ (.head _)))
  have e75 := hF 6 (det 75 _) (.tail _ (.head _))
  have e76 := hF 7 (det 76 _) (.head _)
  rw [AllEq.frame (D := [69, 70, 71, 72, 73, 74, 75, 76]) (AllEq.cons e69 (AllEq.cons e70 (AllEq.cons e71 (AllEq.cons e72 (AllEq.cons e73 (AllEq.cons e74 (AllEq.cons e75 (AllEq.cons e76 (AllEq.nil))))))))) hE rfl]
  clear hF hE e69 e70 e71 e72 e73 e74 e75 e76
  simp only [List.foldl_cons, List.foldl_nil, Act.put, List.setIfInBounds_toArray, List.set_cons_succ, List.set_cons_zero]
  have hg1 := hg.ext R1
  have hv1 := hv.ext R1
  have hmc : ∀ j v, mv[j]? = some v → w1.cell? ((⟨g, i * 2, none⟩ : Addr).add j) = some v := fun j v hj => by
    have hadd : (⟨g, i * 2, none⟩ : Addr).add j = ⟨g, i * 2 + j, none⟩ := by unfold Addr.add; split <;> simp_all
    rw [hadd, hg1.cell]
    have hjl : j < mv.length := (List.getElem?_eq_some_iff.1 hj).1
    rw [← HM.out, List.getElem?_drop, List.getElem?_take_of_lt (by omega)] at hj
    simpa using hj
  refine Z2o _ _ _ _ rfl _ _ rfl rfl (Z1u w1 _ _ _ 103 ti 2 Try.underlying44 hi0 hsz g ((i + 1) * 2) (n - i) (cap - (i + 1)) ⟨g, i * 2, none⟩ (n + 1 - i) (cap - i) cur 103 mv hg1 (by rw [hml]; simp only [Nat.min_def]; split <;> omega) hmc (by rw [hml, hcur]; omega) HM1.out) ?_
  rw [HCE.out]
  have hg2 := hg1.setRow cur1.toArray
  have hc2 := Z1y w1 g cur1.toArray
  have hv2 := hc2.blk hv1 (by simpa using hne)
  have hc02 := (Chg.of_ext R1 [g]).trans hc2
  generalize w1.setRow g cur1.toArray = w2 at hg2 hv2 hc02 ⊢
  have hcc : ∀ j v, cs[j]? = some v → w2.cell? ((⟨vb, 0, none⟩ : Addr).add j) = some v := fun j v hj => by
    have hadd : (⟨vb, 0, none⟩ : Addr).add j = ⟨vb, j, none⟩ := by unfold Addr.add; split <;> simp_all
    rw [hadd, hv2.cell]
    simpa using hj
  have hr2 := fun ty => Z1u (P := Try.prog) w2 44 44 ty 103 ti 2 Try.underlying44 hi0 hsz g (i * 2) (n + 1 - i) (cap - i) ⟨vb, 0, none⟩ 1 1 cur1.toArray 103 cs hg2 (by rw [hcs]; simp only [Nat.min_def]; split <;> omega) hcc (by simp [hcur1, hcs]; omega) h2
  have HR := Lib.hid (And.intro hg2 hc02)
  have HR2 := Lib.hid hr2
  clear hr2 hcc hg2 hv2 hc02 hc2 hg1 hv1 hmc hml hz1 R1 hg hv h1 h2 hcs hcur hcur1 hshape
  go_wp2_with ((with_reducible refine Z13 (o := ⟨some 82, _, _, _, _, _⟩) rfl _ _ _ _ rfl _ _ rfl rfl (HR2.out _) ?_))
  go_ret
  exact ⟨rfl, HR.out.1.setRow _, HR.out.2.trans (Z1y _ _ _)⟩

set_option maxRecDepth 100000 in
set_option maxHeartbeats 4000000 in
/-- There is no room, and the place is not the end. -/
theorem Z76 (g n cap i vb : Nat) (cur : Array Value) (cs : List Value) (w : World) (hg : Blk w g 103 cur) (hv : Blk w vb 103 cs.toArray) (hi : i < n) (hnc : n ≤ cap) (hroom : cap < n + 1) (hb : n ≤ 1000000000000) (hcur : cur.size = cap * 2) (hcs : cs.length = 2)
    (h1 : ∀ u ∈ cur.toList.take (n * 2), u.oneCell' = true) (h2 : ∀ u ∈ cs, u.oneCell' = true) :
    Calls Try.prog 92 #[.slice (some ⟨g, 0, none⟩) n cap, .int .i64 i, .slice (some ⟨vb, 0, none⟩) 1 1] w fun e w' => ∃ cap' L0,
      e = .returned (.slice (some ⟨w.heap.size, 0, none⟩) (n + 1) cap') ∧ n + 1 ≤ cap' ∧ cap' ≤ maxLen ∧ L0.length = cap' * 2 ∧ L0.take (i * 2) = cur.toList.take (i * 2) ∧
      Blk w' w.heap.size 103 (splice (splice L0 (i * 2) cs) ((i + 1) * 2) ((cur.toList.take (n * 2)).drop (i * 2))).toArray ∧ Ext w w' := by
  obtain ⟨ti, hi0, hz, hsz, hby⟩ := Z2e
  have hz1 : (cur.toList.take (n * 2)).length = n * 2 := by rw [List.length_take, Array.length_toList, hcur]; omega
  obtain ⟨mv, hmv⟩ : ∃ mv, (cur.toList.take (n * 2)).drop (i * 2) = mv := ⟨_, rfl⟩
  have hml : mv.length = (n - i) * 2 := by rw [← hmv, List.length_drop, hz1]; omega
  have hm1 : ∀ u ∈ mv, u.oneCell' = true := fun u hu => h1 u (by rw [← hmv] at hu; exact List.mem_of_mem_drop hu)
  rw [hmv]
  obtain ⟨olds, holds⟩ : ∃ olds, cur.toList.take (i * 2) = olds := ⟨_, rfl⟩
  have hol : olds.length = i * 2 := by rw [← holds, List.length_take, Array.length_toList, hcur]; omega
  rw [holds]
  have cellsOf : ∀ W, Blk W g 103 cur → (∀ j v, olds[j]? = some v → W.cell? ((⟨g, 0, none⟩ : Addr).add j) = some v) ∧ (∀ j v, mv[j]? = some v → W.cell? ((⟨g, i * 2, none⟩ : Addr).add j) = some v) := fun W hW => by
    constructor
    · intro j v hj
      have hadd : (⟨g, 0, none⟩ : Addr).add j = ⟨g, j, none⟩ := by unfold Addr.add; split <;> simp_all
      rw [hadd, hW.cell]
      have hjl : j < olds.length := (List.getElem?_eq_some_iff.1 hj).1
      rw [← holds, List.getElem?_take_of_lt (by omega)] at hj
      simpa using hj
    · intro j v hj
      have hadd : (⟨g, i * 2, none⟩ : Addr).add j = ⟨g, i * 2 + j, none⟩ := by unfold Addr.add; split <;> simp_all
      rw [hadd, hW.cell]
      have hjl : j < mv.length := (List.getElem?_eq_some_iff.1 hj).1
      rw [← hmv, List.getElem?_drop, List.getElem?_take_of_lt (by omega)] at hj
      simpa using hj
  have hap := fun ty => Lib.run_append_grow_zeros (P := Try.prog) w 44 3 ty 103 ti zPair .i64 .i64 Try.underlying44 Try.underlying3 hi0 hz (some ⟨g, 0, none⟩) i cap olds
    (run_firstCells_some (P := Try.prog) w.drew ti.size i ⟨g, 0, none⟩ i cap olds (by rw [hsz]; exact hol) (cellsOf w.drew hg.drew).1) (n + 1 - i) (by omega) (by omega) (by omega) (by omega) (by rw [hby]; omega)
    (growslice_fits (by omega) (by rw [hby]; omega))
  rw [show i + (n + 1 - i) = n + 1 by omega] at hap
  have hc1 := grownCap_ge w (n + 1) cap 103
  have hc2 := grownCap_le_maxLen w (n + 1) cap 103 (by unfold maxLen; omega)
  obtain ⟨cap', hcap'⟩ : ∃ cap', grownCap w (n + 1) cap 103 = cap' := ⟨_, rfl⟩
  rw [hcap'] at hap hc1 hc2
  obtain ⟨A0, hA0⟩ : ∃ A0, olds.toArray ++ Builtin.zeroCells zPair.cells (n + 1 - i) ++ Builtin.zeroCells zPair.cells (cap' - (n + 1)) = A0 := ⟨_, rfl⟩
  rw [hA0] at hap
  have hl0 : A0.toList.length = cap' * 2 := by
    rw [← hA0]
    simp only [Array.toList_append, List.length_append, Array.length_toList, size_zeroCells]
    simp only [Value.cells, List.size_toArray, List.length_cons, List.length_nil, hol]
    omega
  have ht0 : A0.toList.take (i * 2) = olds := by
    rw [← hA0]
    simp only [Array.toList_append, List.append_assoc]
    rw [List.take_append_of_le_length (by omega), List.take_of_length_le (by omega)]
  have hcap2 : cap' ≤ 9223372036854775807 := hc2
  have hwn : IntKind.i64.wrap ((n : Int) + 1) = (n : Int) + 1 := IntWalk.i64_in _ (by omega)
  have hwi : IntKind.i64.wrap ((i : Int) + 1) = (i : Int) + 1 := IntWalk.i64_in _ (by omega)
  have hwk : ((n : Int) + 1 - (i : Int)) = ((n + 1 - i : Nat) : Int) := by omega
  have HAP := Lib.hid hap
  have HC := Lib.hid cellsOf
  have HM1 := Lib.hid hm1
  have HL := Lib.hid (And.intro hl0 ht0)
  have H2 := Lib.hid h2
  have HLEN := Lib.hid (And.intro hml hcs)
  have HG := Lib.hid (And.intro hg hv)
  clear hap cellsOf hm1 hl0 ht0 hA0 holds hol hmv h1 h2 hml hcs hg hv hz1 hcur hcap'
  go_enter Try.func92, Try.ntmps92
  go_upto_region 10 with (with_reducible refine Z0m (o := ⟨some 40, _, _, _, _, _⟩) rfl _ _ _ _ rfl _ _ rfl rfl (HAP.out _) ?_)
  have hN : Blk (w.alloc (.cells A0 103)).drew w.heap.size 103 A0 := (Blk.new w _ _).drew
  have hE : Ext w (w.alloc (.cells A0 103)).drew := (Ext.alloc w _).trans (Ext.drew _)
  generalize (w.alloc (.cells A0 103)).drew = w1 at hN hE ⊢
  have hlt := HG.out.1.lt
  have hltv := HG.out.2.lt
  obtain ⟨g', hg'⟩ : ∃ g', w.heap.size = g' := ⟨_, rfl⟩
  rw [hg'] at hN hlt hltv ⊢
  have hcc : ∀ j v, cs[j]? = some v → w1.cell? ((⟨vb, 0, none⟩ : Addr).add j) = some v := fun j v hj => by
    have hadd : (⟨vb, 0, none⟩ : Addr).add j = ⟨vb, j, none⟩ := by unfold Addr.add; split <;> simp_all
    rw [hadd, (HG.out.2.ext hE).cell]
    simpa using hj
  have hr1 := fun ty => Z1u (P := Try.prog) w1 44 44 ty 103 ti 2 Try.underlying44 hi0 hsz g' (i * 2) (n + 1 - i) (cap' - i) ⟨vb, 0, none⟩ 1 1 A0 103 cs hN (by rw [HLEN.out.2]; simp only [Nat.min_def]; split <;> omega) hcc (by have := HL.out.1; rw [Array.length_toList] at this; have := HLEN.out.2; omega) H2.out
  obtain ⟨cur1, hcur1⟩ : ∃ cur1, splice A0.toList (i * 2) cs = cur1 := ⟨_, rfl⟩
  have hcl1 : cur1.length = cap' * 2 := by rw [← hcur1, length_splice _ _ _ (by have := HL.out.1; have := HLEN.out.2; omega)]; exact HL.out.1
  rw [hcur1] at hr1
  have HR1 := Lib.hid hr1
  have HCU := Lib.hid hcur1
  have HN := Lib.hid (And.intro hN hE)
  have HGE := Lib.hid hg'
  clear hr1 hcc hN hE hcur1 hg' HAP
  go_upto_region 11 with (with_reducible refine Z13 (o := ⟨some 45, _, _, _, _, _⟩) rfl _ _ _ _ rfl _ _ rfl rfl (HR1.out _) ?_)
  have HN2 := Lib.hid (And.intro (HN.out.1.setRow cur1.toArray) (Z1y w1 g' cur1.toArray))
  generalize w1.setRow g' cur1.toArray = w2 at HN2 ⊢
  clear HR1
  have hg2 := HN2.out.2.blk (HG.out.1.ext HN.out.2) (by simp; omega)
  have HG2 := Lib.hid hg2
  clear hg2
  refine Z0b (R := Ext) (w0 := w2) [[], [], [], [1, 2], [0, 1, 2, 3], [], [], [5, 6], [0, 1, 2, 3, 4, 5, 6, 7]] [46, 47, 48, 49, 50, 51, 52, 53] Ext.refl (fun _ _ _ => Ext.trans) (Ext.drew _) (by kernel_rfl) ?_
  apply Build.det 46 Ext.refl (by rfl) (by rfl) rfl
  case h =>
    intro ax wx hE hR hF
    have e9 : ax.eval (.tmp 9) = .slice (some ⟨g', 0, none⟩) (n + 1) cap' := hE.eval 9 (by rfl) rfl
    simp [go_sem, ↓IntWalk.iteOmega, ev e9, hwi]
    with_reducible rfl
  apply Build.det 47 Ext.refl (by rfl) (by rfl) rfl
  case h =>
    intro ax wx hE hR hF
    have e1 : ax.eval (.tmp 1) = .int .i64 i := hE.eval 1 (by rfl) rfl
    simp [go_sem, ↓IntWalk.iteOmega, ev e1, hwi]
    with_reducible rfl
  apply Build.det 48 Ext.refl (by rfl) (by rfl) rfl
  case h =>
    intro ax wx hE hR hF
    have e7 : ax.eval (.tmp 7) = .int .i64 1 := hE.eval 7 (by rfl) rfl
    simp [go_sem, ↓IntWalk.iteOmega, ev e7, hwi]
    with_reducible rfl
  apply Build.det 49 Ext.refl (by rfl) (by rfl) rfl
  case h =>
    intro ax wx hE hR hF
    have e47 := hF 1 (det 47 _) (by decide) (.tail _ (.head _))
    have e48 := hF 2 (det 48 _) (by decide) (.head _)
    simp [go_sem, ↓IntWalk.iteOmega, ev e47, ev e48, hwi]
    with_reducible rfl
  apply Build.det 50 Ext.refl (by rfl) (by rfl) rfl
  case h =>
    intro ax wx hE hR hF
    have e46 := hF 0 (det 46 _) (by decide) (.tail _ (.tail _ (.tail _ (.head _))))
    have e49 := hF 3 (det 49 _) (by decide) (.head _)
    simp [go_sem, ↓IntWalk.iteOmega, ev e46, ev e49, hwi]
    with_reducible rfl
  apply Build.det 51 Ext.refl (by rfl) (by rfl) rfl
  case h =>
    intro ax wx hE hR hF
    have e0 : ax.eval (.tmp 0) = .slice (some ⟨g, 0, none⟩) n cap := hE.eval 0 (by rfl) rfl
    simp [go_sem, ↓IntWalk.iteOmega, ev e0, hwi]
    with_reducible rfl
  apply Build.det 52 Ext.refl (by rfl) (by rfl) rfl
  case h =>
    intro ax wx hE hR hF
    have e1 : ax.eval (.tmp 1) = .int .i64 i := hE.eval 1 (by rfl) rfl
    simp [go_sem, ↓IntWalk.iteOmega, ev e1, hwi]
    with_reducible rfl
  apply Build.det 53 Ext.refl (by rfl) (by rfl) rfl
  case h =>
    intro ax wx hE hR hF
    have e51 := hF 5 (det 51 _) (by decide) (.tail _ (.head _))
    have e52 := hF 6 (det 52 _) (by decide) (.head _)
    simp [go_sem, ↓IntWalk.iteOmega, ev e51, ev e52, hwi]
    with_reducible rfl
  apply Build.stop
  refine ⟨by kernel_rfl, .inr ⟨by kernel_rfl, _, rfl, rfl, ?_⟩⟩
  intro ax w3 hE R3 hF
  have e46 := hF 0 (det 46 _) (.tail _ (.tail _ (.tail _ (.tail _ (.tail _ (.tail _ (.tail _ (.head _))))))))
  have e47 := hF 1 (det 47 _) (.tail _ (.tail _ (.tail _ (.tail _ (.tail _ (.tail _ (.head _)))))))
  have e48 := hF 2 (det 48 _) (.tail _ (.tail _ (.tail _ (.tail _ (.tail _ (.head _))))))
  have e49 := hF 3 (det 49 _) (.tail _ (.tail _ (.tail _ (.tail _ (.head _)))))
  have e50 := hF 4 (det 50 _) (.tail _ (.tail _ (.tail _ (.head _))))
  have e51 := hF 5 (det 51 _) (.tail _ (.tail _ (.head _)))
  have e52 := hF 6 (det 52 _) (.tail _ (.head _))
  have e53 := hF 7 (det 53 _) (.head _)
  rw [AllEq.frame (D := [46, 47, 48, 49, 50, 51, 52, 53]) (AllEq.cons e46 (AllEq.cons e47 (AllEq.cons e48 (AllEq.cons e49 (AllEq.cons e50 (AllEq.cons e51 (AllEq.cons e52 (AllEq.cons e53 (AllEq.nil))))))))) hE rfl]
  clear hF hE e46 e47 e48 e49 e50 e51 e52 e53
  simp only [List.foldl_cons, List.foldl_nil, Act.put, List.setIfInBounds_toArray, List.set_cons_succ, List.set_cons_zero]
  have hg3 := HN2.out.1.ext R3
  have hl2 : cur1.toArray.size = cap' * 2 := by simpa using hcl1
  have hr3 := fun ty => Z1u (P := Try.prog) w3 44 44 ty 103 ti 2 Try.underlying44 hi0 hsz g' ((i + 1) * 2) (n - i) (cap' - (i + 1)) ⟨g, i * 2, none⟩ (n - i) (cap - i) cur1.toArray 103 mv hg3 (by rw [HLEN.out.1]; simp only [Nat.min_def]; split <;> omega) (HC.out _ (HG2.out.ext R3)).2 (by have := HLEN.out.1; omega) HM1.out
  refine Z2o _ _ _ _ rfl _ _ rfl rfl (hr3 _) ?_
  have hg4 := hg3.setRow (splice cur1 ((i + 1) * 2) mv).toArray
  have hE4 : Ext w (w3.setRow g' (splice cur1 ((i + 1) * 2) mv).toArray) := by
    have h1 := (Chg.of_ext HN.out.2 [g']).trans HN2.out.2
    have h2 := h1.trans (Chg.of_ext R3 [g'])
    exact ((h2.trans (Z1y _ _ _)).mono (G := []) (fun j hj => .inr (by simp at hj; rw [HGE.out]; omega))).ext
  have HF := Lib.hid (And.intro hg4 hE4)
  clear hg4 hE4 hg3 hr3 hl2 R3
  generalize w3.setRow g' (splice cur1.toArray.toList ((i + 1) * 2) mv).toArray = w4 at HF ⊢
  go_wp2
  go_ret
  refine ⟨cap', A0.toList, ret_v (by rw [HGE.out]; rfl), hc1, hc2, HL.out.1, HL.out.2, ?_, HF.out.2⟩
  rw [HCU.out, HGE.out]
  exact HF.out.1
end Go.Proofs.Ytbfgacmfjfbooaa

/- Rows of pairs in a block: copies, clearings, appends at places (for slices.Replace). -/
namespace Go.Proofs.Ytbfgacmfjfbooaa
set_option linter.unusedVariables false
set_option linter.unusedSimpArgs false
open Go.RowKit Go.Maps

theorem Z2k {α : Type} {L c : List α} {o : Nat} (h : o ≤ L.length) : (splice L o c).take (o + c.length) = L.take o ++ c := by
  unfold splice
  rw [← List.append_assoc, List.take_append_of_le_length (by rw [List.length_append, List.length_take]; omega), List.take_of_length_le (by rw [List.length_append, List.length_take]; omega)]
theorem Z2p {α : Type} {L c : List α} {o p : Nat} (hp : p ≤ o) (h : o ≤ L.length) : (splice L o c).take p = L.take p := by
  unfold splice
  rw [List.take_append_of_le_length (by rw [List.length_take]; omega), List.take_take, Nat.min_eq_left hp]
theorem Z7l {α : Type} {L c : List α} {o : Nat} (h : o + c.length ≤ L.length) : (splice L o c).drop (o + c.length) = L.drop (o + c.length) := by
  unfold splice
  rw [← List.append_assoc, List.drop_append_of_le_length (by rw [List.length_append, List.length_take]; omega), List.drop_of_length_le (by rw [List.length_append, List.length_take]; omega), List.nil_append]
section
variable {H : Nat} {A w : World} {R : List Thing} {T : TypeId} {k n g cap : Nat} {v : Value} {xs cur : List Value}
/-- A row that isn't empty, as its block. -/
theorem OwnT.rowBlk (h : OwnT H A (tRow T k v n xs :: R) w) (hn : 0 < n) : ∃ g cap, ∃ cur : List Value, v = .slice (some ⟨g, 0, none⟩) n cap ∧ n ≤ cap ∧ cap ≤ maxLen ∧ cur.length = cap * k ∧ cur.take (n * k) = xs ∧ OwnT H A (tBlk g T cur.toArray :: R) w := by
  obtain ⟨g, cap, cur, rfl, hb, h1, h2, h3, h4⟩ := Z18 h.r0 hn
  exact ⟨g, cap, cur.toList, rfl, h1, h2, by rw [Array.length_toList, h3], h4, h.call (F := []) (Chg.refl [] w) (by simp) (tBlk g T cur.toList.toArray) (by simpa [tBlk] using hb) (fun i hi => .inl (by simpa [tBlk, tRow, Value.ownBlock] using hi))⟩
theorem OwnT.blkRow (h : OwnT H A (tBlk g T cur.toArray :: R) w) (h1 : n ≤ cap) (h2 : cap ≤ maxLen) (h3 : cur.length = cap * k) (h4 : cur.take (n * k) = xs) : OwnT H A (tRow T k (.slice (some ⟨g, 0, none⟩) n cap) n xs :: R) w :=
  h.call (F := []) (Chg.refl [] w) (by simp) (tRow T k (.slice (some ⟨g, 0, none⟩) n cap) n xs) (Z3x h.b0 h1 h2 (by simpa using h3) (by simpa using h4)) (fun i hi => .inl (by simpa [tBlk, tRow, Value.ownBlock] using hi))
theorem OwnT.setRowB (h : OwnT H A (tBlk g T cur.toArray :: R) w) (c2 : Array Value) : OwnT H A (tBlk g T c2 :: R) (w.setRow g c2) :=
  h.call (F := [g]) (Z1y w g c2) (by simp [tBlk]) (tBlk g T c2) (Blk.setRow h.b0 c2) (fun i hi => .inl hi)
/-- A copy into a block. -/
theorem copyB (O : OwnT H A (tBlk g 103 cur.toArray :: R) w) (o dLen dCap sLen sCap : Nat) (a : Addr) (cs : List Value) (hn : cs.length = Nat.min sLen dLen * 2) (hsrc : ∀ j v, cs[j]? = some v → w.cell? (a.add j) = some v) (hfit : o + cs.length ≤ cur.length) (h1 : ∀ v ∈ cs, v.oneCell' = true) :
    ∃ w', (∀ ty, (Builtin.copy_ #[44, 44] ty #[.slice (some ⟨g, o, none⟩) dLen dCap, .slice (some a) sLen sCap]).run Try.prog w = .ok (goInt (Nat.min sLen dLen)) w') ∧ OwnT H A (tBlk g 103 (splice cur o cs).toArray :: R) w' := by
  obtain ⟨i, z, hi, hz, hs, hby, hzs⟩ := elemPr.info
  refine ⟨w.setRow g (splice cur o cs).toArray, fun ty => ?_, O.setRowB _⟩
  have := Z1u (P := Try.prog) w 44 44 ty 103 i 2 Try.underlying44 hi hs g o dLen dCap a sLen sCap cur.toArray 103 cs O.b0 hn hsrc (by simpa using hfit) h1
  simpa using this
theorem copyZ (B C : Option Addr) (dLen dCap sLen sCap : Nat) (hn : Nat.min sLen dLen = 0) (W : World) (ty : TypeId) : (Builtin.copy_ #[44, 44] ty #[.slice B dLen dCap, .slice C sLen sCap]).run Try.prog W = .ok (goInt 0) W := by
  obtain ⟨i, z, hi, hz, hs, hby, hzs⟩ := elemPr.info
  exact Z55 (P := Try.prog) W 44 44 ty 103 i Try.underlying44 hi B C dLen dCap sLen sCap hn
/-- One element is cleared. -/
theorem clearB (O : OwnT H A (tBlk g 103 cur.toArray :: R) w) (o c : Nat) (hfit : o + 2 ≤ cur.length) :
    ∃ w', ∃ z : List Value, z.length = 2 ∧ (∀ ty, (Builtin.clear_ #[44] ty #[.slice (some ⟨g, o, none⟩) 1 c]).run Try.prog w = .ok (.tuple #[]) w') ∧ OwnT H A (tBlk g 103 (splice cur o z).toArray :: R) w' := by
  obtain ⟨i, hi, hz, hsz, hby⟩ := Z2e
  refine ⟨w.setRow g (splice cur o (Builtin.zeroCells zPair.cells 1).toList).toArray, (Builtin.zeroCells zPair.cells 1).toList, by simp [Builtin.zeroCells, Value.cells], fun ty => ?_, O.setRowB _⟩
  have := Z6t (P := Try.prog) w 44 103 ty i zPair Try.underlying44 hi hz g o 1 c cur.toArray 103 O.b0 (by omega) (by simp [Value.cells]; omega) (Z89 1)
  simpa using this
theorem clearZ (B : Option Addr) (c : Nat) (W : World) (ty : TypeId) : (Builtin.clear_ #[44] ty #[.slice B 0 c]).run Try.prog W = .ok (.tuple #[]) W :=
  Z49 (P := Try.prog) W 44 103 ty Try.underlying44 B c
/-- Nothing is appended. -/
theorem appZ (O : OwnT H A (tBlk g 103 cur.toArray :: R) w) (n c : Nat) (B : Option Addr) (cx : Nat) (hn : n ≤ c) (ty : TypeId) : (Builtin.append_ #[44, 44] ty #[.slice (some ⟨g, 0, none⟩) n c, .slice B 0 cx]).run Try.prog w = .ok (.slice (some ⟨g, 0, none⟩) n c) w := by
  have hs := Z52 w
  cases B <;> simp [Builtin.append_, run_underlying Try.underlying44, hs, Builtin.lenOf, Builtin.firstCells, hn, storeCells, loadCells, loadCellsFrom]
end
section
variable {w : World} {o : Oper} {ρ : Operand → Value} {x y : Operand} {u u' : Value}
theorem Z5s {t t' : TypeId} {v : Value} {w' : World} (ho : o.op = .call { callee := .builtin .copy, args := #[x, y], argTypes := #[t, t'] }) (hx : ρ x = u) (hy : ρ y = u') (hr : (Builtin.copy_ #[t, t'] o.type #[u, u']).run Try.prog w = .ok v w') : (execOp ρ o).run Try.prog w = .ok (.value v) w' := by
  unfold execOp
  simp only [ho, resolve, invoke, builtin, Sem.run_bind, Sem.run_pure, Result.andThen_ok, List.map_toArray, List.map_cons, List.map_nil, hx, hy, hr]
theorem Z0l {lo : Operand} {g n cap a : Nat} (ho : o.op = .slice 44 x (some lo) none none) (hx : ρ x = .slice (some ⟨g, 0, none⟩) n cap) (hl : ρ lo = .int .i64 (a : Nat)) (ha : a < cap) (han : a ≤ n) (hn : n ≤ cap) : (execOp ρ o).run Try.prog w = .ok (.value (.slice (some ⟨g, a * 2, none⟩) (n - a) (cap - a))) w := by
  have h := Z2q (w := w) ho hx hl han hn
  have e : (⟨g, 0, none⟩ : Addr).add (a * 2) = ⟨g, a * 2, none⟩ := by unfold Addr.add; split <;> simp_all
  rw [if_neg (by omega), Option.map_some, e] at h
  exact h
theorem Z1j {lo hi : Operand} {g n cap a b : Nat} (ho : o.op = .slice 44 x (some lo) (some hi) none) (hx : ρ x = .slice (some ⟨g, 0, none⟩) n cap) (hl : ρ lo = .int .i64 (a : Nat)) (hh : ρ hi = .int .i64 (b : Nat)) (ha : a < cap) (hab : a ≤ b) (hb : b ≤ cap) : (execOp ρ o).run Try.prog w = .ok (.value (.slice (some ⟨g, a * 2, none⟩) (b - a) (cap - a))) w := by
  have h1 : (0 ≤ ((b : Nat) : Int) ∧ ((b : Nat) : Int) ≤ (cap : Int)) := by omega
  have h2 : (0 ≤ ((a : Nat) : Int) ∧ ((a : Nat) : Int) ≤ ((b : Nat) : Int)) := by omega
  have hs' := Z52 w
  have e : (⟨g, 0, none⟩ : Addr).add (a * 2) = ⟨g, a * 2, none⟩ := by unfold Addr.add; split <;> simp_all
  unfold execOp
  simp only [ho, Option.map_some, Option.map_none, hx, hl, hh]
  simp only [Instr.sliceAt, Instr.slice, Instr.sliceBounds, Instr.sliceBound, run_underlying Try.underlying44, asIntOf, Sem.run_bind, Sem.run_pure, Result.andThen_ok, Int.toNat_natCast, if_pos h1, if_pos h2, hs', Option.isSome_none, Bool.false_eq_true, if_false, if_neg (show ¬ cap = a by omega), Option.map_some, e]
theorem Z6n {t : TypeId} {p v : Value} {w' : World} (ho : o.op = .call { callee := .builtin .clear, args := #[x], argTypes := #[t] }) (hx : ρ x = p) (h : (Builtin.clear_ #[t] o.type #[p]).run Try.prog w = .ok v w') : (execOp ρ o).run Try.prog w = .ok (.value v) w' := by
  unfold execOp
  simp only [ho, resolve, invoke, builtin, Sem.run_bind, Sem.run_pure, Result.andThen_ok, List.map_toArray, List.map_cons, List.map_nil, hx, h]
theorem Z7f {A : Option Addr} {l c : Nat} (ho : o.op = .call { callee := .builtin .cap, args := #[x], argTypes := #[44] }) (hx : ρ x = .slice A l c) : (execOp ρ o).run Try.prog w = .ok (.value (.int .i64 (c : Int))) w := by
  simp [execOp, ho, hx, resolve, invoke, builtin, Builtin.cap_, run_underlying Try.underlying44, goInt]
/-- What stands in a block from a place on. -/
theorem Z3c {w : World} {g : Nat} {cur d : List Value} {o : Nat} (h : Blk w g 103 cur.toArray) (hd : (cur.drop o).take d.length = d) : ∀ j u, d[j]? = some u → w.cell? ((⟨g, o, none⟩ : Addr).add j) = some u := by
  intro j u hu
  have hadd : (⟨g, o, none⟩ : Addr).add j = ⟨g, o + j, none⟩ := by unfold Addr.add; split <;> simp_all
  have hjl := (List.getElem?_eq_some_iff.1 hu).1
  rw [hadd, h.cell]
  rw [← hd, List.getElem?_take_of_lt hjl, List.getElem?_drop] at hu
  simpa using hu
theorem x_ext2 {f : FuncId} {ts : Array TypeId} {r : Next} {w' : World} (ho : o.op = .call { callee := .value (.func f), args := #[x, y], argTypes := ts }) (hf : ρ (.func f) = .func (.func f) #[] #[]) (hx : ρ x = u) (hy : ρ y = u') (h : (callFunc f #[u, u']).run Try.prog w = .ok r w') : (execOp ρ o).run Try.prog w = .ok r w' := by
  unfold execOp
  simp only [ho, resolve, Deferred.ofValue, invoke, Sem.run_bind, Sem.run_pure, Result.andThen_ok, List.map_toArray, List.map_cons, List.map_nil, hx, hy, hf]
  simpa using h
/-- Two rows in two blocks don't overlap. -/
theorem apartB {W : World} {vb g : Nat} {c1 c2 : Array Value} (h1 : Blk W vb 103 c1) (h2 : Blk W g 103 c2) (hne : g ≠ vb) (hs1 : c1.size ≠ 0) (hs2 : c2.size ≠ 0) (a b la ca lb cb : Nat) :
    (callFunc 112 #[.slice (some ⟨g, a, none⟩) la ca, .slice (some ⟨vb, b, none⟩) lb cb]).run Try.prog W = .ok (.value (.bool false)) W := by
  have hshape : ∀ b cs', Blk W b 103 cs' → W.shape? b = some (103, cs'.size) := fun b cs' h => by
    unfold Blk at h
    simp [World.shape?, h]
  rw [run_callFunc_extern Try.func112 (by kernel_rfl) (by kernel_rfl) (by kernel_rfl) (e := Extern.SlicesOverlaps.overlaps #[44, 44] #[4]) (by kernel_rfl),
    Lib.run_overlaps_apart W 44 4 103 Try.underlying44 2 (fun _ => by kernel_rfl) ⟨g, a, none⟩ ⟨vb, b, none⟩ la ca lb cb hne 103 103 _ _ (hshape _ _ h2) (hshape _ _ h1)]
  all_goals first | rfl | exact hs1 | exact hs2 | exact h1.frozen _ | exact h2.frozen _
end
section
variable {H : Nat} {A w : World} {R : List Thing} {g n cap i : Nat} {cur : List Value}
/-- A row's beginning, and zeros, in a block of its own. -/
theorem growB (O : OwnT H A (tBlk g 103 cur.toArray :: R) w) (hcur : cur.length = cap * 2) (hi : i ≤ cap) (k : Nat) (hk : cap < i + k) (hb : i + k ≤ 1000000) :
    ∃ g2 cap2 w2, ∃ C : List Value, (∀ ty, (Builtin.append_ #[44, 3] ty #[.slice (some ⟨g, 0, none⟩) i cap, .int .i64 (k : Nat)]).run Try.prog w = .ok (.slice (some ⟨g2, 0, none⟩) (i + k) cap2) w2) ∧ i + k ≤ cap2 ∧ cap2 ≤ maxLen ∧ C.length = cap2 * 2 ∧ C.take (i * 2) = cur.take (i * 2) ∧ OwnT H A (tBlk g2 103 C.toArray :: tBlk g 103 cur.toArray :: R) w2 := by
  obtain ⟨ti, hi0, hz, hsz, hby⟩ := Z2e
  have hg := O.b0
  obtain ⟨olds, holds⟩ : ∃ olds, cur.take (i * 2) = olds := ⟨_, rfl⟩
  have hol : olds.length = i * 2 := by rw [← holds, List.length_take, hcur]; omega
  have cellsOf : ∀ j v, olds[j]? = some v → w.drew.cell? ((⟨g, 0, none⟩ : Addr).add j) = some v := Z3c (o := 0) hg.drew (by rw [List.drop_zero, hol, holds])
  have hap := fun ty => Lib.run_append_grow_zeros (P := Try.prog) w 44 3 ty 103 ti zPair .i64 .i64 Try.underlying44 Try.underlying3 hi0 hz (some ⟨g, 0, none⟩) i cap olds
    (run_firstCells_some (P := Try.prog) w.drew ti.size i ⟨g, 0, none⟩ i cap olds (by rw [hsz]; exact hol) cellsOf) k (by omega) (by omega) (by omega) (by omega) (by rw [hby]; omega)
    (growslice_fits (by omega) (by rw [hby]; omega))
  have hc1 := grownCap_ge w (i + k) cap 103
  have hc2 := grownCap_le_maxLen w (i + k) cap 103 (by unfold maxLen; omega)
  obtain ⟨cap', hcap'⟩ : ∃ cap', grownCap w (i + k) cap 103 = cap' := ⟨_, rfl⟩
  rw [hcap'] at hap hc1 hc2
  have hzl : ∀ m, (Builtin.zeroCells zPair.cells m).toList.length = m * 2 := fun m => by simp [Builtin.zeroCells, Value.cells]
  refine ⟨w.heap.size, cap', _, (olds.toArray ++ Builtin.zeroCells zPair.cells k ++ Builtin.zeroCells zPair.cells (cap' - (i + k))).toList, hap, hc1, hc2, ?_, ?_, ?_⟩
  · simp only [Array.toList_append, List.length_append, hzl, hol]
    omega
  · rw [Array.toList_append, Array.toList_append, List.append_assoc, List.take_append_of_le_length (by simp [hol]), List.take_of_length_le (by simp [hol]), holds]
  · rw [Array.toArray_toList]
    exact O.drew.new 103 (olds.toArray ++ Builtin.zeroCells zPair.cells k ++ Builtin.zeroCells zPair.cells (cap' - (i + k)))
end
end Go.Proofs.Ytbfgacmfjfbooaa
