/- The library's contracts that this proof uses, laid by the kit's own tool at this translation (plain words). -/
import Derived.Shelf.SlIterI.Nil
import Derived.Shelf.SortM.Plain
import Derived.Shelf.SortM.SortNone
import Derived.Shelf.SlMaps.DeleteFunc
import Derived.Ground.GgzProg
import Derived.Ground.SlgmProg
import Derived.Ground.SlmdProg
import Derived.Test.YtojilbacloegjaaProg
import Derived.Test.YtojilbacloegjaaKHeatOrder00
import Derived.Test.YtojilbacloegjaaKHeatOrder02
import Derived.Handy
namespace Go.Proofs
open Go.Shelf
def Try.keysA_ren : Go.Shelf.Ren := ⟨fun | 7 => 31 | 10 => 34 | n => n, fun | 23 => 66 | 26 => 3 | 3 => 3 | 28 => 73 | 0 => 0 | 27 => 72 | 33 => 76 | 4 => 4 | n => n, fun | n => n⟩
theorem Try.keysA : Go.Proofs.SlLaysZI.n7 Try.prog Try.keysA_ren := {
  mixed := by kernel_rfl
  f7 := ⟨Try.f31.name, by decide, Try.func31.trans (congrArg some (by kernel_rfl))⟩
  f10 := ⟨Try.f34.name, by decide, Try.func34.trans (congrArg some (by kernel_rfl))⟩
  t0 := Try.underlying0
  a0 := Try.isAgg0
  z0 := Try.sizeOf0
  v0 := Try.zeroValue0
  t4 := Try.underlying4
  a4 := Try.isAgg4
  z4 := Try.sizeOf4
  v4 := Try.zeroValue4
  t23 := Try.underlying66
  a23 := Try.isAgg66
  z23 := Try.sizeOf66
  v23 := Try.zeroValue66
  t26 := Try.underlying3
  a26 := Try.isAgg3
  z26 := Try.sizeOf3
  v26 := Try.zeroValue3
  t27 := Try.underlying72
  a27 := Try.isAgg72
  z27 := Try.sizeOf72
  v27 := Try.zeroValue72
  t28 := Try.underlying73
  a28 := Try.isAgg73
  z28 := Try.sizeOf73
  v28 := Try.zeroValue73
  t33 := Try.underlying76
  a33 := Try.isAgg76
  z33 := Try.sizeOf76
  v33 := Try.zeroValue76 }
def Try.sortedA_ren : Go.Shelf.Ren := ⟨fun | 6 => 30 | 8 => 32 | 9 => 33 | 11 => 35 | 13 => 37 | 12 => 36 | 23 => 47 | 24 => 48 | 14 => 38 | 15 => 39 | 16 => 40 | 17 => 41 | 18 => 42 | 19 => 43 | 20 => 44 | 21 => 45 | 22 => 46 | 25 => 49 | 26 => 50 | 27 => 51 | 28 => 52 | 29 => 53 | 30 => 54 | 31 => 55 | n => n, fun | 26 => 3 | 28 => 73 | 24 => 41 | 0 => 0 | 3 => 3 | 37 => 49 | 48 => 89 | 50 => 26 | 4 => 4 | 40 => 82 | 39 => 81 | 45 => 86 | 5 => 5 | 9 => 9 | 51 => 91 | 55 => 95 | 57 => 97 | 58 => 98 | 33 => 76 | n => n, fun | n => n⟩
theorem Try.sortedA : Go.Proofs.SlLaysZI.n6 Try.prog Try.sortedA_ren := {
  mixed := by kernel_rfl
  f6 := ⟨Try.f30.name, by decide, Try.func30.trans (congrArg some (by kernel_rfl))⟩
  f8 := ⟨Try.f32.name, by decide, Try.func32.trans (congrArg some (by kernel_rfl))⟩
  f11 := ⟨Try.f35.name, by decide, Try.func35.trans (congrArg some (by kernel_rfl))⟩
  t0 := Try.underlying0
  a0 := Try.isAgg0
  z0 := Try.sizeOf0
  v0 := Try.zeroValue0
  t24 := Try.underlying41
  a24 := Try.isAgg41
  z24 := Try.sizeOf41
  v24 := Try.zeroValue41
  t26 := Try.underlying3
  a26 := Try.isAgg3
  z26 := Try.sizeOf3
  v26 := Try.zeroValue3
  t28 := Try.underlying73
  a28 := Try.isAgg73
  z28 := Try.sizeOf73
  v28 := Try.zeroValue73
  i26 := by kernel_rfl }
def Try.sortA_ren : Go.Shelf.Ren := ⟨fun | 5 => 33 | 8 => 37 | 7 => 36 | 19 => 47 | 20 => 48 | 10 => 38 | 11 => 39 | 12 => 40 | 13 => 41 | 14 => 42 | 15 => 43 | 16 => 44 | 17 => 45 | 18 => 46 | 30 => 49 | 31 => 50 | 32 => 51 | 33 => 52 | 34 => 53 | 35 => 54 | 40 => 55 | n => n, fun | 23 => 41 | 25 => 3 | 3 => 3 | 32 => 49 | 22 => 41 | 0 => 0 | 44 => 89 | 46 => 26 | 4 => 4 | 36 => 82 | 35 => 81 | 41 => 86 | 5 => 5 | 9 => 9 | 53 => 91 | 57 => 95 | 63 => 97 | 64 => 98 | n => n, fun | n => n⟩
theorem Try.sortA : Go.Proofs.SlLaysM.n5 Try.prog Try.sortA_ren := {
  mixed := by kernel_rfl
  f5 := ⟨Try.f33.name, by decide, Try.func33.trans (congrArg some (by kernel_rfl))⟩
  f7 := ⟨Try.f36.name, by decide, Try.func36.trans (congrArg some (by kernel_rfl))⟩
  f8 := Try.func37.trans (congrArg some (by kernel_rfl))
  f10 := ⟨Try.f38.name, by decide, Try.func38.trans (congrArg some (by kernel_rfl))⟩
  f11 := ⟨Try.f39.name, by decide, Try.func39.trans (congrArg some (by kernel_rfl))⟩
  f12 := ⟨Try.f40.name, by decide, Try.func40.trans (congrArg some (by kernel_rfl))⟩
  f13 := ⟨Try.f41.name, by decide, Try.func41.trans (congrArg some (by kernel_rfl))⟩
  f14 := ⟨Try.f42.name, by decide, Try.func42.trans (congrArg some (by kernel_rfl))⟩
  f15 := ⟨Try.f43.name, by decide, Try.func43.trans (congrArg some (by kernel_rfl))⟩
  f16 := ⟨Try.f44.name, by decide, Try.func44.trans (congrArg some (by kernel_rfl))⟩
  f17 := ⟨Try.f45.name, by decide, Try.func45.trans (congrArg some (by kernel_rfl))⟩
  f18 := ⟨Try.f46.name, by decide, Try.func46.trans (congrArg some (by kernel_rfl))⟩
  f19 := Try.func47.trans (congrArg some (by kernel_rfl))
  f20 := Try.func48.trans (congrArg some (by kernel_rfl))
  f30 := ⟨Try.f49.name, by decide, Try.func49.trans (congrArg some (by kernel_rfl))⟩
  f31 := Try.func50.trans (congrArg some (by kernel_rfl))
  f32 := Try.func51.trans (congrArg some (by kernel_rfl))
  f33 := ⟨Try.f52.name, by decide, Try.func52.trans (congrArg some (by kernel_rfl))⟩
  f34 := ⟨Try.f53.name, by decide, Try.func53.trans (congrArg some (by kernel_rfl))⟩
  f35 := ⟨Try.f54.name, by decide, Try.func54.trans (congrArg some (by kernel_rfl))⟩
  f40 := ⟨Try.f55.name, by decide, Try.func55.trans (congrArg some (by kernel_rfl))⟩
  t0 := Try.underlying0
  a0 := Try.isAgg0
  z0 := Try.sizeOf0
  v0 := Try.zeroValue0
  t3 := Try.underlying3
  a3 := Try.isAgg3
  z3 := Try.sizeOf3
  v3 := Try.zeroValue3
  t4 := Try.underlying4
  a4 := Try.isAgg4
  z4 := Try.sizeOf4
  v4 := Try.zeroValue4
  t5 := Try.underlying5
  a5 := Try.isAgg5
  z5 := Try.sizeOf5
  v5 := Try.zeroValue5
  t9 := Try.underlying9
  a9 := Try.isAgg9
  z9 := Try.sizeOf9
  v9 := Try.zeroValue9
  t22 := Try.underlying41
  a22 := Try.isAgg41
  z22 := Try.sizeOf41
  v22 := Try.zeroValue41
  t23 := Try.underlying41
  a23 := Try.isAgg41
  z23 := Try.sizeOf41
  v23 := Try.zeroValue41
  t25 := Try.underlying3
  a25 := Try.isAgg3
  z25 := Try.sizeOf3
  v25 := Try.zeroValue3
  t32 := Try.underlying49
  a32 := Try.isAgg49
  z32 := Try.sizeOf49
  v32 := Try.zeroValue49
  t35 := Try.underlying81
  a35 := Try.isAgg81
  z35 := Try.sizeOf81
  v35 := Try.zeroValue81
  t36 := Try.underlying82
  a36 := Try.isAgg82
  z36 := Try.sizeOf82
  v36 := Try.zeroValue82
  t41 := Try.underlying86
  a41 := Try.isAgg86
  z41 := Try.sizeOf86
  v41 := Try.zeroValue86
  t44 := Try.underlying89
  a44 := Try.isAgg89
  z44 := Try.sizeOf89
  v44 := Try.zeroValue89
  t46 := Try.underlying26
  a46 := Try.isAgg26
  z46 := Try.sizeOf26
  v46 := Try.zeroValue26
  t53 := Try.underlying91
  a53 := Try.isAgg91
  z53 := Try.sizeOf91
  v53 := Try.zeroValue91
  t57 := Try.underlying95
  a57 := Try.isAgg95
  z57 := Try.sizeOf95
  v57 := Try.zeroValue95
  t63 := Try.underlying97
  a63 := Try.isAgg97
  z63 := Try.sizeOf97
  v63 := Try.zeroValue97
  t64 := Try.underlying98
  a64 := Try.isAgg98
  z64 := Try.sizeOf98
  v64 := Try.zeroValue98 }
def Try.delA_ren : Go.Shelf.Ren := ⟨fun | 5 => 28 | n => n, fun | 23 => 66 | 26 => 3 | 24 => 3 | 27 => 70 | 0 => 0 | 4 => 4 | n => n, fun | n => n⟩
theorem Try.delA : Go.Proofs.SlLaysDf.n5 Try.prog Try.delA_ren := {
  mixed := by kernel_rfl
  f5 := ⟨Try.f28.name, by decide, Try.func28.trans (congrArg some (by kernel_rfl))⟩
  t0 := Try.underlying0
  a0 := Try.isAgg0
  z0 := Try.sizeOf0
  v0 := Try.zeroValue0
  t4 := Try.underlying4
  a4 := Try.isAgg4
  z4 := Try.sizeOf4
  v4 := Try.zeroValue4
  t23 := Try.underlying66
  a23 := Try.isAgg66
  z23 := Try.sizeOf66
  v23 := Try.zeroValue66
  a24 := Try.isAgg3
  z24 := Try.sizeOf3
  a26 := Try.isAgg3
  z26 := Try.sizeOf3
  t27 := Try.underlying70
  a27 := Try.isAgg70
  z27 := Try.sizeOf70
  v27 := Try.zeroValue70 }
end Go.Proofs

/- A map of ints to ints: what it says of each int. A book of heats. -/
namespace Go.Proofs.Ytojilbacloegjaa
set_option linter.unusedVariables false
set_option linter.unusedSimpArgs false
open Go.RowKit Go.Maps

theorem law_int : Keyed Try.prog 3 := int_keyed Try.underlying3
theorem zero_int (w : World) : (zeroValue 3).run Try.prog w = .ok (.int .i64 0) w := by kernel_rfl
abbrev wfI (i : Int) : Prop := (Lit.int .i64 i).wf = true
theorem wfI_of {a : Int} (h0 : -9223372036854775808 ≤ a) (h1 : a ≤ 9223372036854775807) : wfI a := WalkArith.wf_i64 (by omega)
theorem int_key {i : Int} (h : wfI i) : keyOf Try.prog 3 (.int .i64 i) = some (.int .i64 i) := keyOf_int_mk Try.underlying3 h
abbrev dI (i : Int) : DataW Unit := .lit (.int .i64 i)
theorem key_int (i : Int) : WideAt.IsKeyLit (.int .i64 i) := trivial
/-- What a map says: of each int its element (none: 0), and that none of its elements is 0. -/
def SaysU (D : DataW Unit) (u : Int → Int) : Prop := ∀ i, wfI i → D.atKey (.int .i64 i) (dI 0) = dI (u i) ∧ Maps.has D (.int .i64 i) = decide (u i ≠ 0)
def HB (w : World) (b n : Nat) (u : Int → Int) : Prop := ∃ D : DataW Unit, w.ownsMap Try.prog 3 (plainElem Try.prog 3) b n D ∧ SaysU D u
def updU (u : Int → Int) (c v : Int) : Int → Int := fun i => if i = c then v else u i
section
variable {w w' : World} {b n : Nat} {u : Int → Int}
theorem HB.made (w : World) : HB (w.alloc (.map #[] 0)) w.heap.size 0 (fun _ => 0) :=
  ⟨.map [], World.ownsMap_made _ _ _ _, fun _ _ => ⟨rfl, rfl⟩⟩
theorem HB.kept {row : Option Nat} (h : HB w b n u) (hg : w.grownBy w' row) (hne : some b ≠ row) : HB w' b n u := by
  obtain ⟨D, h1, h2⟩ := h
  exact ⟨D, h1.kept hg hne, h2⟩
theorem HB.ext (h : HB w b n u) (k : Ext w w') : HB w' b n u := h.kept (only_of_below k none) (by simp)
theorem HB.lt (h : HB w b n u) : b < w.heap.size := by
  obtain ⟨D, h1, h2⟩ := h
  exact h1.lt
theorem HB.look (h : HB w b n u) {c : Int} (hc : wfI c) : (Instr.lookup 66 (.map (some b)) (.int .i64 c) false).run Try.prog w = .ok (.int .i64 (u c)) w := by
  obtain ⟨D, h1, h2⟩ := h
  obtain ⟨x, hrun, hat, _⟩ := h1.lookup_int law_int Try.underlying66 Try.underlying3 (zero_int w) (int_key hc)
  rw [(h2 c hc).1] at hat
  simp [dI] at hat
  rw [hrun, hat]
theorem SaysU.put {D : DataW Unit} (h : SaysU D u) (hm : IsMap D) {c v : Int} (hv : v ≠ 0) : SaysU (D.put (.int .i64 c) (dI v)) (updU u c v) := by
  intro i hi
  unfold updU
  by_cases e : i = c
  · subst e
    rw [if_pos rfl, atKey_put_same hm (key_int i), has_put_same hm (key_int i)]
    simp [hv]
  · have hne : (Lit.int .i64 i) ≠ (Lit.int .i64 c) := fun h => e (by injection h)
    rw [if_neg e, atKey_put_other hne, has_put_other hne]
    exact h i hi
theorem SaysU.del {D : DataW Unit} (h : SaysU D u) {c : Int} : SaysU (D.del (.int .i64 c)) (updU u c 0) := by
  intro i hi
  unfold updU
  by_cases e : i = c
  · subst e
    rw [if_pos rfl, atKey_del_same, has_del_same]
    simp
  · have hne : (Lit.int .i64 i) ≠ (Lit.int .i64 c) := fun h => e (by injection h)
    rw [if_neg e, atKey_del_other hne, has_del_other hne]
    exact h i hi
/-- 'm[c] = v' at the operation. -/
theorem wp_hb_store {o : Oper} {a : Act} {K : Act → World → Prop} {Q : Exit → Act → World → Prop} (h : HB w b n u) (m x v : Operand) (hop : o.op = Op.mapUpdate 66 m x v) (hn : n < maxLen) {c z : Int} (hc : wfI c) (hz : wfI z) (hz0 : z ≠ 0)
    (hm : a.eval m = .map (some b)) (hx : a.eval x = .int .i64 c) (hv : a.eval v = .int .i64 z)
    (hK : ∀ w', HB w' b (n + 1) (updU u c z) → w.grownBy w' (some b) → K (a.put o.dst undef) w') : o.wp Try.prog a w K Q := by
  obtain ⟨D, h1, h2⟩ := h
  obtain ⟨w', hrun, h3, h4⟩ := h1.update law_int Try.underlying66 hn (int_key hc) (plainElem_int (H := Unit) Try.underlying3 hz)
  unfold Oper.wp
  simp [execOp, hop, hm, hx, hv, hrun, Result.andThen]
  exact hK w' ⟨_, h3, h2.put h1.isMap hz0⟩ h4
end
/-- A book: a pointer's block, and the map that it leads to. -/
structure Bk (w : World) (pb mb n : Nat) (u : Int → Int) : Prop where
  blk : Blk w pb 68 #[.map (some mb)]
  hb : HB w mb n u
section
variable {w w' : World} {pb mb n : Nat} {u : Int → Int}
theorem Bk.ne (h : Bk w pb mb n u) : pb ≠ mb := by
  rintro rfl
  obtain ⟨D, ⟨es, clock, hb, _⟩, _⟩ := h.hb
  have := h.blk
  unfold Blk at this
  rw [hb] at this
  cases this
theorem Bk.kept {row : Option Nat} (h : Bk w pb mb n u) (hg : w.grownBy w' row) (h1 : some pb ≠ row) (h2 : some mb ≠ row) : Bk w' pb mb n u := ⟨h.blk.grown hg h1, h.hb.kept hg h2⟩
theorem Bk.ext (h : Bk w pb mb n u) (k : Ext w w') : Bk w' pb mb n u := ⟨h.blk.ext k, h.hb.ext k⟩
end
/-- Heats: none below 0 or above 2^20; only of chunks. -/
def Heats (u : Int → Int) : Prop := ∀ i, 0 ≤ u i ∧ u i ≤ 1048576 ∧ (u i ≠ 0 → 1 ≤ i ∧ i ≤ 1023)
def touchU (u : Int → Int) (c n : Int) : Int → Int := if c < 1 ∨ 1023 < c ∨ n ≤ 0 then u else updU u c (min (u c + min n 1048576) 1048576)
theorem touchU_no {u : Int → Int} {c n : Int} (h : c < 1 ∨ 1023 < c ∨ n ≤ 0) : touchU u c n = u := if_pos h
theorem touchU_yes {u : Int → Int} {c n : Int} (h : ¬ (c < 1 ∨ 1023 < c ∨ n ≤ 0)) : touchU u c n = updU u c (min (u c + min n 1048576) 1048576) := if_neg h
theorem Heats.touch {u : Int → Int} (h : Heats u) (c n : Int) : Heats (touchU u c n) := by
  unfold touchU
  split
  · exact h
  · intro i
    unfold updU
    have h1 := h i
    have h2 := h c
    split
    · subst_vars
      omega
    · exact h1
theorem Heats.zero : Heats (fun _ => 0) := fun i => by simp
theorem Heats.half {u : Int → Int} (h : Heats u) : Heats (fun i => u i / 2) := fun i => by
  have := h i
  show 0 ≤ u i / 2 ∧ u i / 2 ≤ 1048576 ∧ (u i / 2 ≠ 0 → 1 ≤ i ∧ i ≤ 1023)
  omega
theorem Heats.forget {u : Int → Int} (h : Heats u) (c : Int) : Heats (updU u c 0) := fun i => by
  unfold updU
  have := h i
  split
  · simp
  · exact this

set_option maxHeartbeats 1000000 in
theorem new_any (w : World) : Calls Try.prog 16 #[] w fun e w' => e = .returned (.pointer (some ⟨w.heap.size + 1, 0, none⟩)) ∧ Ext w w' ∧ Bk w' (w.heap.size + 1) w.heap.size 0 (fun _ => 0) := by
  have hmm := @run_makeMap Try.prog
  go_enter Try.func16, Try.ntmps16
  go_wp2
  go_ret
  have h1 := HB.made w
  exact ⟨rfl, by (repeat (first | with_reducible exact Below.refl _ _ | with_reducible assumption | with_reducible apply Below.drew | with_reducible apply below_drewN | (with_reducible refine below_set ?_ ?_; focus ((try simp); (try omega); done)) | (with_reducible refine below_new ?_ ?_; focus ((try simp); (try omega); done)))), ⟨blk_new (by simp), h1.ext (Ext.alloc _ _)⟩⟩

theorem of_any (w : World) (pb mb n : Nat) (u : Int → Int) (c : Int) (h : Bk w pb mb n u) (hc : wfI c) :
    Calls Try.prog 19 #[.pointer (some ⟨pb, 0, none⟩), .int .i64 c] w fun e w' => e = .returned (.int .i64 (u c)) ∧ w = w' := by
  have hlk := h.hb.look hc
  have q0 := h.blk.cell 0
  simp at q0
  generalize u c = v at hlk ⊢
  go_enter Try.func19, Try.ntmps19
  go_wp2
  go_ret
  exact ⟨rfl, rfl⟩
end Go.Proofs.Ytojilbacloegjaa

/- Heat: Touch, Forget. -/
namespace Go.Proofs.Ytojilbacloegjaa
set_option linter.unusedVariables false
set_option linter.unusedSimpArgs false
open Go.RowKit Go.Maps

set_option maxHeartbeats 1000000 in
theorem touch_no (w : World) (pb mb n : Nat) (u : Int → Int) (c k : Int) (hk : c < 1 ∨ 1023 < c ∨ k ≤ 0) :
    Calls Try.prog 17 #[.pointer (some ⟨pb, 0, none⟩), .int .i64 c, .int .i64 k] w fun e w' => e = .returned (.tuple #[]) ∧ w = w' := by
  go_enter Try.func17, Try.ntmps17
  by_cases h1 : c < 1
  · clear hk
    go_wp2
    go_returns
    exact ⟨rfl, rfl⟩
  · by_cases h2 : 1023 < c
    · clear hk
      go_wp2
      go_returns
      exact ⟨rfl, rfl⟩
    · have h3 : k ≤ 0 := by omega
      clear hk
      go_wp2
      go_returns
      exact ⟨rfl, rfl⟩

set_option maxRecDepth 100000 in
set_option maxHeartbeats 2000000 in
theorem touch_yes (w : World) (pb mb n : Nat) (u : Int → Int) (c k : Int) (h1 : 1 ≤ c) (h2 : c ≤ 1023) (h3 : 0 < k) (h4 : k ≤ 9223372036854775807) (hn : n ≤ 100000) (hB : Bk w pb mb n u) (hH : Heats u) :
    Calls Try.prog 17 #[.pointer (some ⟨pb, 0, none⟩), .int .i64 c, .int .i64 k] w fun e w' => e = .returned (.tuple #[]) ∧ Bk w' pb mb (n + 1) (updU u c (min (u c + min k 1048576) 1048576)) ∧ w.grownBy w' (some mb) := by
  have hu := hH c
  have hwc : wfI c := wfI_of (by omega) (by omega)
  obtain ⟨v, hv⟩ : ∃ v, u c = v := ⟨_, rfl⟩
  rw [hv] at hu
  obtain ⟨x, hx⟩ : ∃ x, min k 1048576 = x := ⟨_, rfl⟩
  have hx1 : 1 ≤ x ∧ x ≤ 1048576 := by omega
  obtain ⟨y, hy⟩ : ∃ y, min (v + x) 1048576 = y := ⟨_, rfl⟩
  have hy1 : 1 ≤ y ∧ y ≤ 1048576 := by omega
  have hwx : IntKind.i64.wrap (v + x) = v + x := IntWalk.i64_in _ (by omega)
  rw [hv, hx, hy]
  have HV := Lib.hid hv
  have HY1 := Lib.hid hy1
  have HB0 := Lib.hid hB
  clear hH hv hu hx1 hy1
  go_enter Try.func17, Try.ntmps17
  go_upto_region 1 with fail
  refine wp_typed (R := Ext) (w0 := w) [[], [0], [0, 1], [0, 1, 2], [], [], [5], [5, 6], [5, 6, 7], [], [5, 6, 7, 8, 9], [], [11], [5, 6, 7, 8, 9, 10, 11, 12], [5, 6, 7, 8, 9, 10, 11, 12, 13], [0, 1, 2, 3, 4, 5, 6, 7, 8, 9, 10, 11, 12, 13, 14]] [20, 21, 22, 23, 24, 25, 26, 27, 28, 29, 30, 31, 32, 33, 34] Ext.refl (fun _ _ _ => Ext.trans) (Ext.drew _) (by kernel_rfl) ?_
  apply Build.det 20 Ext.refl (by rfl) (by rfl) rfl
  case h =>   -- 0: t20 := Op.move (tmp 0)
    intro ax wx hE hR hF
    have e0 : ax.eval (.tmp 0) = .pointer (some ⟨pb, 0, none⟩) := hE.eval 0 (by rfl) rfl
    simp [go_sem, BigFrame.eval_const, BigFrame.eval_global, BigFrame.eval_func, ↓IntWalk.iteOmega, ev e0]
    with_reducible rfl
  apply Build.det 21 Ext.refl (by rfl) (by rfl) rfl
  case h =>   -- 1: t21 := Op.nilCheck (tmp 20)
    intro ax wx hE hR hF
    have e20 : ax.eval (.tmp 20) = _ := hF 0 (det 20 _) (by decide) (.head _)
    simp [go_sem, BigFrame.eval_const, BigFrame.eval_global, BigFrame.eval_func, ↓IntWalk.iteOmega, ev e20]
    with_reducible rfl
  apply Build.det 22 Ext.refl (by rfl) (by rfl) rfl
  case h =>   -- 2: t22 := Op.fieldAddr 68 (tmp 21) 0
    intro ax wx hE hR hF
    have e21 : ax.eval (.tmp 21) = _ := hF 1 (det 21 _) (by decide) (.head _)
    simp [go_sem, BigFrame.eval_const, BigFrame.eval_global, BigFrame.eval_func, ↓IntWalk.iteOmega, ev e21]
    with_reducible rfl
  apply Build.det 23 Ext.refl (by rfl) (by rfl) rfl
  case h =>   -- 3: t23 := Op.load 66 (tmp 22)
    intro ax wx hE hR hF
    have e22 : ax.eval (.tmp 22) = _ := hF 2 (det 22 _) (by decide) (.head _)
    have hX := HB0.out.ext hR; have q0 := hX.blk.cell 0; simp at q0
    simp [go_sem, BigFrame.eval_const, BigFrame.eval_global, BigFrame.eval_func, ↓IntWalk.iteOmega, ev e22, q0]
    with_reducible rfl
  apply Build.det 24 Ext.refl (by rfl) (by rfl) rfl
  case h =>   -- 4: t24 := Op.move (tmp 1)
    intro ax wx hE hR hF
    have e1 : ax.eval (.tmp 1) = .int .i64 c := hE.eval 1 (by rfl) rfl
    simp [go_sem, BigFrame.eval_const, BigFrame.eval_global, BigFrame.eval_func, ↓IntWalk.iteOmega, ev e1]
    with_reducible rfl
  apply Build.det 25 Ext.refl (by rfl) (by rfl) rfl
  case h =>   -- 5: t25 := Op.move (tmp 0)
    intro ax wx hE hR hF
    have e0 : ax.eval (.tmp 0) = .pointer (some ⟨pb, 0, none⟩) := hE.eval 0 (by rfl) rfl
    simp [go_sem, BigFrame.eval_const, BigFrame.eval_global, BigFrame.eval_func, ↓IntWalk.iteOmega, ev e0]
    with_reducible rfl
  apply Build.det 26 Ext.refl (by rfl) (by rfl) rfl
  case h =>   -- 6: t26 := Op.nilCheck (tmp 25)
    intro ax wx hE hR hF
    have e25 : ax.eval (.tmp 25) = _ := hF 5 (det 25 _) (by decide) (.head _)
    simp [go_sem, BigFrame.eval_const, BigFrame.eval_global, BigFrame.eval_func, ↓IntWalk.iteOmega, ev e25]
    with_reducible rfl
  apply Build.det 27 Ext.refl (by rfl) (by rfl) rfl
  case h =>   -- 7: t27 := Op.fieldAddr 68 (tmp 26) 0
    intro ax wx hE hR hF
    have e26 : ax.eval (.tmp 26) = _ := hF 6 (det 26 _) (by decide) (.head _)
    simp [go_sem, BigFrame.eval_const, BigFrame.eval_global, BigFrame.eval_func, ↓IntWalk.iteOmega, ev e26]
    with_reducible rfl
  apply Build.det 28 Ext.refl (by rfl) (by rfl) rfl
  case h =>   -- 8: t28 := Op.load 66 (tmp 27)
    intro ax wx hE hR hF
    have e27 : ax.eval (.tmp 27) = _ := hF 7 (det 27 _) (by decide) (.head _)
    have hX := HB0.out.ext hR; have q0 := hX.blk.cell 0; simp at q0
    simp [go_sem, BigFrame.eval_const, BigFrame.eval_global, BigFrame.eval_func, ↓IntWalk.iteOmega, ev e27, q0]
    with_reducible rfl
  apply Build.det 29 Ext.refl (by rfl) (by rfl) rfl
  case h =>   -- 9: t29 := Op.move (tmp 1)
    intro ax wx hE hR hF
    have e1 : ax.eval (.tmp 1) = .int .i64 c := hE.eval 1 (by rfl) rfl
    simp [go_sem, BigFrame.eval_const, BigFrame.eval_global, BigFrame.eval_func, ↓IntWalk.iteOmega, ev e1]
    with_reducible rfl
  apply Build.det 30 Ext.refl (by rfl) (by rfl) rfl
  case h =>   -- 10: t30 := Op.lookup 66 (tmp 28) (tmp 29) false
    intro ax wx hE hR hF
    have e28 : ax.eval (.tmp 28) = _ := hF 8 (det 28 _) (by decide) (.tail _ (.head _))
    have e29 : ax.eval (.tmp 29) = _ := hF 9 (det 29 _) (by decide) (.head _)
    have hlk := (HB0.out.ext hR).hb.look hwc; rw [HV.out] at hlk
    simp [go_sem, BigFrame.eval_const, BigFrame.eval_global, BigFrame.eval_func, ↓IntWalk.iteOmega, ev e28, ev e29, hlk]
    with_reducible rfl
  apply Build.det 31 Ext.refl (by rfl) (by rfl) rfl
  case h =>   -- 11: t31 := Op.move (tmp 2)
    intro ax wx hE hR hF
    have e2 : ax.eval (.tmp 2) = .int .i64 k := hE.eval 2 (by rfl) rfl
    simp [go_sem, BigFrame.eval_const, BigFrame.eval_global, BigFrame.eval_func, ↓IntWalk.iteOmega, ev e2]
    with_reducible rfl
  apply Build.det 32 Ext.refl (by rfl) (by rfl) rfl
  case h =>   -- 12: t32 := Op.call {callee := Callee.builtin Builtin.min, args := #[tmp 31, const
    intro ax wx hE hR hF
    have e31 : ax.eval (.tmp 31) = _ := hF 11 (det 31 _) (by decide) (.head _)
    simp [go_sem, BigFrame.eval_const, BigFrame.eval_global, BigFrame.eval_func, ↓IntWalk.iteOmega, ev e31, hx]
    with_reducible rfl
  apply Build.det 33 Ext.refl (by rfl) (by rfl) rfl
  case h =>   -- 13: t33 := Op.binOp BinOp.add 3 (tmp 30) (tmp 32) 3
    intro ax wx hE hR hF
    have e30 : ax.eval (.tmp 30) = _ := hF 10 (det 30 _) (by decide) (.tail _ (.tail _ (.head _)))
    have e32 : ax.eval (.tmp 32) = _ := hF 12 (det 32 _) (by decide) (.head _)
    simp [go_sem, BigFrame.eval_const, BigFrame.eval_global, BigFrame.eval_func, ↓IntWalk.iteOmega, ev e30, ev e32, hwx]
    with_reducible rfl
  apply Build.det 34 Ext.refl (by rfl) (by rfl) rfl
  case h =>   -- 14: t34 := Op.call {callee := Callee.builtin Builtin.min, args := #[tmp 33, const
    intro ax wx hE hR hF
    have e33 : ax.eval (.tmp 33) = _ := hF 13 (det 33 _) (by decide) (.head _)
    simp [go_sem, BigFrame.eval_const, BigFrame.eval_global, BigFrame.eval_func, ↓IntWalk.iteOmega, ev e33, hy]
    with_reducible rfl
  apply Build.stop
  refine ⟨by kernel_rfl, .inr ⟨by kernel_rfl, _, rfl, rfl, ?_⟩⟩
  intro ax w2 hE R2 hF
  have e20 : ax.eval (.tmp 20) = _ := hF 0 (det 20 _) (.tail _ (.tail _ (.tail _ (.tail _ (.tail _ (.tail _ (.tail _ (.tail _ (.tail _ (.tail _ (.tail _ (.tail _ (.tail _ (.tail _ (.head _)))))))))))))))
  have e21 : ax.eval (.tmp 21) = _ := hF 1 (det 21 _) (.tail _ (.tail _ (.tail _ (.tail _ (.tail _ (.tail _ (.tail _ (.tail _ (.tail _ (.tail _ (.tail _ (.tail _ (.tail _ (.head _))))))))))))))
  have e22 : ax.eval (.tmp 22) = _ := hF 2 (det 22 _) (.tail _ (.tail _ (.tail _ (.tail _ (.tail _ (.tail _ (.tail _ (.tail _ (.tail _ (.tail _ (.tail _ (.tail _ (.head _)))))))))))))
  have e23 : ax.eval (.tmp 23) = _ := hF 3 (det 23 _) (.tail _ (.tail _ (.tail _ (.tail _ (.tail _ (.tail _ (.tail _ (.tail _ (.tail _ (.tail _ (.tail _ (.head _))))))))))))
  have e24 : ax.eval (.tmp 24) = _ := hF 4 (det 24 _) (.tail _ (.tail _ (.tail _ (.tail _ (.tail _ (.tail _ (.tail _ (.tail _ (.tail _ (.tail _ (.head _)))))))))))
  have e25 : ax.eval (.tmp 25) = _ := hF 5 (det 25 _) (.tail _ (.tail _ (.tail _ (.tail _ (.tail _ (.tail _ (.tail _ (.tail _ (.tail _ (.head _))))))))))
  have e26 : ax.eval (.tmp 26) = _ := hF 6 (det 26 _) (.tail _ (.tail _ (.tail _ (.tail _ (.tail _ (.tail _ (.tail _ (.tail _ (.head _)))))))))
  have e27 : ax.eval (.tmp 27) = _ := hF 7 (det 27 _) (.tail _ (.tail _ (.tail _ (.tail _ (.tail _ (.tail _ (.tail _ (.head _))))))))
  have e28 : ax.eval (.tmp 28) = _ := hF 8 (det 28 _) (.tail _ (.tail _ (.tail _ (.tail _ (.tail _ (.tail _ (.head _)))))))
  have e29 : ax.eval (.tmp 29) = _ := hF 9 (det 29 _) (.tail _ (.tail _ (.tail _ (.tail _ (.tail _ (.head _))))))
  have e30 : ax.eval (.tmp 30) = _ := hF 10 (det 30 _) (.tail _ (.tail _ (.tail _ (.tail _ (.head _)))))
  have e31 : ax.eval (.tmp 31) = _ := hF 11 (det 31 _) (.tail _ (.tail _ (.tail _ (.head _))))
  have e32 : ax.eval (.tmp 32) = _ := hF 12 (det 32 _) (.tail _ (.tail _ (.head _)))
  have e33 : ax.eval (.tmp 33) = _ := hF 13 (det 33 _) (.tail _ (.head _))
  have e34 : ax.eval (.tmp 34) = _ := hF 14 (det 34 _) (.head _)
  rw [AllEq.frame (D := [20, 21, 22, 23, 24, 25, 26, 27, 28, 29, 30, 31, 32, 33, 34]) (AllEq.cons e20 (AllEq.cons e21 (AllEq.cons e22 (AllEq.cons e23 (AllEq.cons e24 (AllEq.cons e25 (AllEq.cons e26 (AllEq.cons e27 (AllEq.cons e28 (AllEq.cons e29 (AllEq.cons e30 (AllEq.cons e31 (AllEq.cons e32 (AllEq.cons e33 (AllEq.cons e34 (AllEq.nil)))))))))))))))) hE rfl]
  clear hF hE e20 e21 e22 e23 e24 e25 e26 e27 e28 e29 e30 e31 e32 e33 e34
  simp only [List.foldl_cons, List.foldl_nil, Act.put, List.setIfInBounds_toArray, List.set_cons_succ, List.set_cons_zero]
  have hB2 := HB0.out.ext R2
  refine wp_hb_store hB2.hb _ _ _ rfl (by unfold maxLen; omega) hwc (wfI_of (by have := HY1.out; omega) (by have := HY1.out; omega)) (by have := HY1.out; omega) rfl rfl rfl (fun w3 h5 h6 => ?_)
  go_wp2_with fail
  go_end0
  have hne := HB0.out.ne
  have hlt := HB0.out.hb.lt
  exact ⟨rfl, ⟨hB2.blk.grown h6 (fun e => hne (by injection e)), h5⟩, grown_trans' (only_of_below R2 (some mb)) h6⟩
theorem touch_any (w : World) (pb mb n : Nat) (u : Int → Int) (c k : Int) (hk : wfI k) (hn : n ≤ 100000) (hB : Bk w pb mb n u) (hH : Heats u) :
    Calls Try.prog 17 #[.pointer (some ⟨pb, 0, none⟩), .int .i64 c, .int .i64 k] w fun e w' => e = .returned (.tuple #[]) ∧ Bk w' pb mb (n + 1) (touchU u c k) ∧ w.grownBy w' (some mb) := by
  by_cases h : c < 1 ∨ 1023 < c ∨ k ≤ 0
  · refine (touch_no w pb mb n u c k h).mono ?_
    rintro e w' ⟨rfl, rfl⟩
    rw [touchU_no h]
    obtain ⟨D, h1, h2⟩ := hB.hb
    exact ⟨rfl, ⟨hB.blk, D, h1.mono (by omega), h2⟩, World.grownBy.refl _ _⟩
  · rw [touchU_yes h]
    have := bounds_i64 hk
    exact touch_yes w pb mb n u c k (by omega) (by omega) (by omega) (by omega) hn hB hH

set_option maxHeartbeats 1000000 in
theorem forget_any (w : World) (pb mb n : Nat) (u : Int → Int) (c : Int) (hc : wfI c) (hB : Bk w pb mb n u) :
    Calls Try.prog 24 #[.pointer (some ⟨pb, 0, none⟩), .int .i64 c] w fun e w' => e = .returned (.tuple #[]) ∧ Bk w' pb mb n (updU u c 0) ∧ w.grownBy w' (some mb) := by
  have hne := hB.ne
  obtain ⟨D, hown, hD⟩ := hB.hb
  have hb := hB.blk
  have q0 := hB.blk.cell 0
  simp at q0
  have HD := Lib.hid hD
  have HB1 := Lib.hid hb
  clear hB hD hb
  go_enter Try.func24, Try.ntmps24
  go_wp2_with (first | (at_delete; refine wpList_delete_own _ rfl _ _ 66 3 rfl 3 law_int Try.underlying66 _ mb n D rfl hown _ _ rfl (int_key hc) ?_; intro w1 hown1 hturn1) | go_in)
  go_end0
  exact ⟨rfl, ⟨HB1.out.grown hturn1.grown (fun e => hne (by injection e)), _, hown1, HD.out.del⟩, hturn1.grown⟩
end Go.Proofs.Ytojilbacloegjaa

/- Heat: Decay. -/
namespace Go.Proofs.Ytojilbacloegjaa
set_option linter.unusedVariables false
set_option linter.unusedSimpArgs false
open Go.RowKit Go.Maps Go.Shelf

def isZeroD (_ : Lit) : DataW Unit → Bool
  | .lit (.int _ v) => v == 0
  | _ => false
theorem closure_any (k : Value) (v : Int) (W : World) : Calls Try.prog 29 (#[k, .int .i64 v] ++ #[]) W fun e w' => e = .returned (.bool (v == 0)) ∧ w' = W := by
  go_enter Try.func29, Try.ntmps29
  go_wp2
  go_ret
  exact ⟨rfl, rfl⟩
theorem delete_any (b n : Nat) (D : DataW Unit) (w : World) (hown : w.ownsMap Try.prog 3 (plainElem Try.prog 3) b n D) :
    Calls Try.prog 28 #[.map (some b), .func (.func 29) #[] #[]] w
      fun e w' => e = .returned (.tuple #[]) ∧ w'.ownsMap Try.prog 3 (plainElem Try.prog 3) b n (Lib.deleteFuncD isZeroD D) ∧ w.grownBy w' (some b) := by
  have eg : ∀ args w, (callFunc 29 args).run Try.prog w = .ok (.enter 29 args) w := enters_of Try.func29 (by kernel_rfl) rfl
  exact AnyDf.maps_DeleteFunc Try.delA law_int (plainElem Try.prog 3) isZeroD 29 #[] b n D w eg hown (fun W key val kl yd yp _ _ hv => by
    obtain ⟨c, rfl, hy, _⟩ := plainElem_int_inv Try.underlying3 hv
    obtain rfl : yd = .lit (.int .i64 c) := by simpa using (congrArg Prod.fst hy)
    exact (closure_any key c W).mono fun _ _ ⟨he, hw⟩ => ⟨he, hw ▸ World.grownBy.refl _ _⟩)

/-- Of the heats those are halved that are no longer to come. -/
def HalfD (D : DataW Unit) (u : Int → Int) (left : Lit → Bool) : Prop := ∀ i, wfI i → D.atKey (.int .i64 i) (dI 0) = dI (cond (left (.int .i64 i)) (u i) (u i / 2)) ∧ Maps.has D (.int .i64 i) = decide (u i ≠ 0)
theorem HalfD.start {D : DataW Unit} {u : Int → Int} (h : SaysU D u) : HalfD D u (Maps.has D) := fun i hi => by
  obtain ⟨h1, h2⟩ := h i hi
  refine ⟨?_, h2⟩
  rw [h1, h2]
  by_cases e : u i = 0
  · simp [e]
  · simp [e]
theorem HalfD.step {D : DataW Unit} {u : Int → Int} {left : Lit → Bool} (h : HalfD D u left) (hm : IsMap D) {x c : Int} (hx : wfI x) (hl : left (.int .i64 x) = true) (hat : ∀ zd, D.atKey (.int .i64 x) zd = .lit (.int .i64 c)) :
    c = u x ∧ HalfD (D.put (.int .i64 x) (dI (c / 2))) u (fun z => left z && !z.sameKey (.int .i64 x)) := by
  have hc : c = u x := by
    have h1 := (h x hx).1
    rw [hl, hat] at h1
    simpa [dI] using h1
  refine ⟨hc, fun i hi => ?_⟩
  by_cases e : i = x
  · subst e
    have hh : Maps.has D (.int .i64 i) = true := has_true_of_atKey hat
    dsimp only
    rw [atKey_put_same hm (key_int i), has_put_same hm (key_int i), WideAt.sameKey_self (key_int i), ← (h i hi).2, hh, hc]
    simp
  · have hne : (Lit.int .i64 i) ≠ (Lit.int .i64 x) := fun h => e (by injection h)
    dsimp only
    rw [atKey_put_other hne, has_put_other hne, sameKey_ne hne]
    simpa using h i hi
theorem HalfD.done {D : DataW Unit} {u : Int → Int} {left : Lit → Bool} (h : HalfD D u left) (hl : ∀ kl, left kl = false) (hT : Tidy D) (hH : Heats u) : SaysU (Lib.deleteFuncD isZeroD D) (fun i => u i / 2) := by
  intro i hi
  obtain ⟨h1, h2⟩ := h i hi
  rw [hl] at h1
  rw [deleteFuncD_at hT (key_int i) (dI 0), deleteFuncD_has hT (key_int i) (dI 0), h1, h2]
  have hu := (hH i).1
  show (if (decide (u i ≠ 0) && !(u i / 2 == 0)) = true then _ else _) = _ ∧ (decide (u i ≠ 0) && !(u i / 2 == 0)) = _
  by_cases e : u i / 2 = 0
  · simp [e]
  · have : u i ≠ 0 := by omega
    simp [e, this]

set_option maxRecDepth 100000 in
set_option maxHeartbeats 4000000 in
theorem decay_any (w : World) (pb mb n : Nat) (u : Int → Int) (hB : Bk w pb mb n u) (hH : Heats u) :
    Calls Try.prog 18 #[.pointer (some ⟨pb, 0, none⟩)] w fun e w' => e = .returned (.tuple #[]) ∧ Bk w' pb mb n (fun i => u i / 2) ∧ w.grownBy w' (some mb) := by
  have hne := hB.ne
  obtain ⟨D0, hown, hD⟩ := hB.hb
  have q0 := hB.blk.cell 0
  simp at q0
  have HD := Lib.hid hD
  have HB1 := Lib.hid hB.blk
  have HH := Lib.hid hH
  have hlt := hown.lt
  clear hB hD hH
  go_enter Try.func18, Try.ntmps18
  go_wp2_with (first
    | (at_range; refine wpList_range_own _ rfl _ 66 rfl 3 3 law_int Try.underlying66 _ mb n D0 rfl hown ?_; intro w0 hrg0 hg0 hs0)
    | go_in)
  go_frame
  have hstart : ∃ left cnt D, w0.ranges Try.prog 3 (plainElem Try.prog 3) mb w.heap.size n D left cnt ∧ HalfD D u left ∧ w.grownBy w0 (some mb) := ⟨_, _, _, hrg0, HalfD.start HD.out, hg0.but _⟩
  clear hrg0 hg0 hs0 q0 hown
  go_loopw [2, 3] (fun _ _ wr => ∃ left cnt D, wr.ranges Try.prog 3 (plainElem Try.prog 3) mb w.heap.size n D left cnt ∧ HalfD D u left ∧ w.grownBy wr (some mb)) (fun _ _ wr => wr.rangeLeft mb w.heap.size)
  case atStart => exact hstart
  case round =>
    obtain ⟨left, cnt, D, hrg, hh, hgw⟩ := hrel
    have HHD := Lib.hid hh
    clear hh hstart
    go_wp2_with (first
      | (at_next; refine wpList_next_ranges_ii _ rfl _ rfl 3 3 .i64 .i64 law_int Try.underlying3 Try.underlying3 mb w.heap.size n _ _ _ rfl hrg ?_ ?_)
      | go_in)
    · intro _ hl0
      have hB2 := HB1.out.grown hgw (fun e => hne (by injection e))
      have q0 := hB2.cell 0
      simp at q0
      have hcd := delete_any mb n D wr hrg.owns
      have HDN := Lib.hid (HHD.out.done hl0 (hrg.owns.tidy law_int) HH.out)
      clear hrg hB2
      go_wp2_with fail
      refine hcd.mono ?_
      rintro e w2 ⟨rfl, h1, h2⟩
      go_wp2_with fail
      go_end0
      exact ⟨rfl, ⟨(HB1.out.grown hgw (fun e => hne (by injection e))).grown h2 (fun e => hne (by injection e)), _, h1, HDN.out⟩, grown_trans' hgw h2⟩
    · intro x c w1 cnt1 hwx hwc hlx hat hrg1 hlt1 hg1 hs1 hen
      have hstep := HHD.out.step hrg.owns.isMap hwx hlx hat
      have hth : Maps.has D (.int .i64 x) = true := has_true_of_atKey hat
      obtain ⟨hc, hhd⟩ := hstep
      have hcu := HH.out x
      rw [← hc] at hcu
      have HHD1 := Lib.hid hhd
      have hgw1 := hgw.andThen hg1 (fun j hj => by cases hj; exact Or.inl (Nat.le_refl _))
      have hB2 := HB1.out.grown hgw1 (fun e => hne (by injection e))
      have q0 := hB2.cell 0
      simp at q0
      have hc0 : 0 ≤ c := hcu.1
      have hc1 : c ≤ 1048576 := hcu.2.1
      have hw2 : wfI (c / 2) := wfI_of (by omega) (by omega)
      have HLT := Lib.hid (show cnt1 < wr.rangeLeft mb w.heap.size by rw [hrg.left_eq]; exact hlt1)
      clear hat hhd hB2 hcu hc hrg hgw hlt1
      go_wp2_with (first
        | (at_mapUpdate; refine wpList_ranges_store rfl _ _ _ 66 rfl 3 law_int Try.underlying66 rfl hrg1 _ _ _ rfl rfl (int_key hwx) (dI (c / 2)) [] (plainElem_int Try.underlying3 hw2) hth ?_; intro w2 hrg2 hturn; go_frame)
        | go_in)
      go_roundw
      case rel => exact ⟨_, _, _, hrg2, HHD1.out, grown_trans' hgw1 hturn.grown⟩
      case measure => rw [hrg2.left_eq]; exact HLT.out
end Go.Proofs.Ytojilbacloegjaa
