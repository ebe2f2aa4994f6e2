/- The walks of package mains: each method on a block that holds its four fields. -/
import Derived.Test.YtdpohbaeopidmaaKChunkExact00
import Derived.Maps.RangeWalk
import Derived.Maps.Ext
import Derived.Lib.SlMapFilter
import Derived.ProofKit
import Derived.OpenShut
import Derived.ChangeOld
import Derived.Deep.Fields
namespace Go.Proofs.Ytdpohbaeopidmaa
set_option linter.unusedVariables false
set_option linter.unusedSimpArgs false
open Go.RowKit

def mains (away : Bool) (fuse lives uses : Int) : Array Value := #[.bool away, .int .i64 fuse, .int .i64 lives, .int .i64 uses]

theorem mains_cells {w : World} {g : Nat} {away : Bool} {fuse lives uses : Int} (h : Blk w g 132 (mains away fuse lives uses)) :
    w.cell? ⟨g, 0, none⟩ = some (.bool away) ∧ w.cell? ⟨g, 1, none⟩ = some (.int .i64 fuse) ∧ w.cell? ⟨g, 2, none⟩ = some (.int .i64 lives) ∧ w.cell? ⟨g, 3, none⟩ = some (.int .i64 uses) ∧
    w.frozen? ⟨g, 0, none⟩ = false ∧ w.frozen? ⟨g, 1, none⟩ = false ∧ w.frozen? ⟨g, 2, none⟩ = false ∧ w.frozen? ⟨g, 3, none⟩ = false :=
  ⟨h.cell 0, h.cell 1, h.cell 2, h.cell 3, h.frozen 0, h.frozen 1, h.frozen 2, h.frozen 3⟩

set_option maxHeartbeats 400000 in
theorem new_any (w : World) : Calls Try.prog 31 #[] w fun e w' => e = .returned (.pointer (some ⟨w.heap.size, 0, none⟩)) ∧ Upd w w.heap.size 132 (mains false (-1) 1 0) w' := by
  go_enter Try.func31, Try.ntmps31
  go_wp2
  go_ret
  exact ⟨rfl, Blk.new _ _ _, only_alloc (World.grownBy.refl w _) _⟩

set_option maxHeartbeats 400000 in
theorem use_ok (g : Nat) (fuse lives uses : Int) (w : World) (h : Blk w g 132 (mains false fuse lives uses)) (hf : fuse ≠ 0) (h0 : -1 ≤ fuse) (h1 : fuse ≤ 9223372036854775807) (h2 : 0 ≤ uses) (h3 : uses ≤ 1000000000000000000) :
    Calls Try.prog 84 #[.pointer (some ⟨g, 0, none⟩)] w fun e w' => e = .returned (.int .i64 0) ∧ Upd w g 132 (mains false (max (fuse - 1) (-1)) lives (uses + 1)) w' := by
  obtain ⟨c0, c1, c2, c3, f0, f1, f2, f3⟩ := mains_cells h
  have hz : ((fuse : Int) == 0) = false := by simp [hf]
  have H := Lib.hid h
  clear h
  go_enter Try.func84, Try.ntmps84
  go_wp2
  all_goals
    go_ret
    refine ⟨rfl, ?_⟩
    have K := (((Upd.refl H.out).set 0 (.bool false)).set 1 (.int .i64 (max (fuse - 1) (-1)))).set 3 (.int .i64 (uses + 1))
  · rw [show max (fuse - 1) (-1) = -1 by omega] at K ⊢; exact K
  · rw [show max (fuse - 1) (-1) = fuse - 1 by omega] at K ⊢; exact K

/-- A use of what is away, or whose fuse is out. -/
theorem use_down (g : Nat) (away : Bool) (fuse lives uses : Int) (w : World) (h : Blk w g 132 (mains away fuse lives uses)) (hf : (away || fuse == 0) = true) :
    Calls Try.prog 84 #[.pointer (some ⟨g, 0, none⟩)] w fun e w' => e = .returned (.int .i64 4) ∧ Upd w g 132 (mains true fuse lives uses) w' := by
  obtain ⟨c0, c1, c2, c3, f0, f1, f2, f3⟩ := mains_cells h
  have H := Lib.hid h
  clear h
  cases away
  · have hz : ((fuse : Int) == 0) = true := by simpa using hf
    clear hf
    go_enter Try.func84, Try.ntmps84
    go_wp2
    go_ret
    exact ⟨rfl, (Upd.refl H.out).set 0 (.bool true)⟩
  · clear hf
    go_enter Try.func84, Try.ntmps84
    go_wp2
    go_ret
    exact ⟨rfl, (Upd.refl H.out).set 0 (.bool true)⟩

theorem fuse_any (g : Nat) (away : Bool) (fuse lives uses n : Int) (w : World) (h : Blk w g 132 (mains away fuse lives uses)) :
    Calls Try.prog 50 #[.pointer (some ⟨g, 0, none⟩), .int .i64 n] w fun e w' => e = .returned (.tuple #[]) ∧ Upd w g 132 (mains away (max n (-1)) lives uses) w' := by
  obtain ⟨c0, c1, c2, c3, f0, f1, f2, f3⟩ := mains_cells h
  have H := Lib.hid h
  clear h
  by_cases hn : n < -1
  · go_enter Try.func50, Try.ntmps50
    go_wp2
    go_end0
    refine ⟨rfl, ?_⟩
    rw [show max n (-1) = -1 by omega]
    exact (Upd.refl H.out).set 1 (.int .i64 (-1))
  · go_enter Try.func50, Try.ntmps50
    go_wp2
    go_end0
    refine ⟨rfl, ?_⟩
    rw [show max n (-1) = n by omega]
    exact (Upd.refl H.out).set 1 (.int .i64 n)

theorem cut_any (g : Nat) (away : Bool) (fuse lives uses : Int) (w : World) (h : Blk w g 132 (mains away fuse lives uses)) :
    Calls Try.prog 41 #[.pointer (some ⟨g, 0, none⟩)] w fun e w' => e = .returned (.tuple #[]) ∧ Upd w g 132 (mains true fuse lives uses) w' := by
  obtain ⟨c0, c1, c2, c3, f0, f1, f2, f3⟩ := mains_cells h
  have H := Lib.hid h
  clear h
  go_enter Try.func41, Try.ntmps41
  go_wp2
  go_end0
  exact ⟨rfl, (Upd.refl H.out).set 0 (.bool true)⟩

theorem come_away (g : Nat) (fuse lives uses : Int) (w : World) (h : Blk w g 132 (mains true fuse lives uses)) (h0 : 0 ≤ lives) (h1 : lives ≤ 1000000000000000000) :
    Calls Try.prog 42 #[.pointer (some ⟨g, 0, none⟩)] w fun e w' => e = .returned (.tuple #[]) ∧ Upd w g 132 (mains false (-1) (lives + 1) uses) w' := by
  obtain ⟨c0, c1, c2, c3, f0, f1, f2, f3⟩ := mains_cells h
  have H := Lib.hid h
  clear h
  go_enter Try.func42, Try.ntmps42
  go_wp2
  go_end0
  exact ⟨rfl, (((Upd.refl H.out).set 0 (.bool false)).set 1 (.int .i64 (-1))).set 2 (.int .i64 (lives + 1))⟩

theorem come_there (g : Nat) (fuse lives uses : Int) (w : World) (h : Blk w g 132 (mains false fuse lives uses)) :
    Calls Try.prog 42 #[.pointer (some ⟨g, 0, none⟩)] w fun e w' => e = .returned (.tuple #[]) ∧ w = w' := by
  obtain ⟨c0, c1, c2, c3, f0, f1, f2, f3⟩ := mains_cells h
  clear h
  go_enter Try.func42, Try.ntmps42
  go_wp2
  go_end0
  exact ⟨rfl, rfl⟩

theorem on_any (g : Nat) (away : Bool) (fuse lives uses : Int) (w : World) (h : Blk w g 132 (mains away fuse lives uses)) :
    Calls Try.prog 53 #[.pointer (some ⟨g, 0, none⟩)] w fun e w' => e = .returned (.bool !away) ∧ w = w' := by
  obtain ⟨c0, c1, c2, c3, f0, f1, f2, f3⟩ := mains_cells h
  clear h
  go_enter Try.func53, Try.ntmps53
  go_wp2
  go_ret
  exact ⟨rfl, rfl⟩

theorem uses_any (g : Nat) (away : Bool) (fuse lives uses : Int) (w : World) (h : Blk w g 132 (mains away fuse lives uses)) :
    Calls Try.prog 87 #[.pointer (some ⟨g, 0, none⟩)] w fun e w' => e = .returned (.int .i64 uses) ∧ w = w' := by
  obtain ⟨c0, c1, c2, c3, f0, f1, f2, f3⟩ := mains_cells h
  clear h
  go_enter Try.func87, Try.ntmps87
  go_wp2
  go_ret
  exact ⟨rfl, rfl⟩

end Go.Proofs.Ytdpohbaeopidmaa

/- Maps: a store at a key that is there, in the round of a range over that very map; what is left behind maps.DeleteFunc. No program in sight. -/
namespace Go.Proofs.Ytdpohbaeopidmaa
set_option linter.unusedVariables false
set_option linter.unusedSimpArgs false
open Go.RowKit Go.Maps Go.ChangeMaps Go.MapKept Go.WideShapes
open Go.WideElems (Fit rd rg pl rd_key rd_val rg_of rd_mk other_key)

section
variable {H : Type} {P : Program} {k : TypeId} {R : Value → Option (DataW H × List MemPlace)} {w : World} {b r n : Nat} {D : DataW H} {left : Lit → Bool} {cnt : Nat}

theorem has_entries {l : List (Lit × DataW H)} {kl : Lit} (h : Maps.has (.map (l.foldr DataW.insert [])) kl = true) : ∃ p ∈ l, p.1 = kl := by
  obtain ⟨p, hp, hs⟩ := List.any_eq_true.1 h
  exact ⟨p, mem_sorted.1 hp, WideAt.sameKey_eq hs⟩
theorem filter_len_map {α β : Type} (f : α → β) (p : β → Bool) (l l' : List α) (h : l.map f = l'.map f) : (l.filter fun x => p (f x)).length = (l'.filter fun x => p (f x)).length := by
  have e : ∀ m : List α, (m.filter fun x => p (f x)).length = ((m.map f).filter p).length := fun m => by
    rw [List.filter_map, List.length_map]
    rfl
  rw [e, e, h]
theorem map_set_same {α β : Type} (f : α → β) {l : List α} {j : Nat} {x y : α} (h : l[j]? = some x) (hf : f y = f x) : (l.set j y).map f = l.map f := by
  rw [List.map_set, hf]
  apply List.ext_getElem?
  intro i
  by_cases e : j = i
  · subst e
    rw [List.getElem?_set_self (by simpa using (List.getElem?_eq_some_iff.1 h).1)]
    simp [h]
  · rw [List.getElem?_set_ne e]

/-- 'm[k] = v' at a key that is there, in the round. -/
theorem ranges_store {t e : TypeId} (h : w.ranges P k R b r n D left cnt) (K : Keyed P k) (ht : P.underlying t = some (.map k e)) {key val : Value} {kl : Lit} {d : DataW H} {ps : List MemPlace} (hkey : keyOf P k key = some kl) (hv : R val = some (d, ps)) (hth : Maps.has D kl = true) :
    ∃ w', (Instr.mapUpdate t (.map (some b)) key val).run P w = .ok () w' ∧ w'.ranges P k R b r n (D.put kl d) left cnt ∧ w.mapTurned w' b := by
  have hne := h.ne
  obtain ⟨es, clock, since, seen, c0, hb, F, hs, rfl, hr, hold, hcn, hl1, hl2, hsc, hsk⟩ := h
  rcases K.find w hkey es.toList F.keys with ⟨_, h2⟩ | ⟨j, e0, h1, h2, h3⟩
  · obtain ⟨p, hp, hpk⟩ := has_entries hth
    obtain ⟨x, hx, rfl⟩ := List.mem_map.1 hp
    obtain ⟨y, hy⟩ := F.reads x hx
    rw [rg_of hy] at hpk
    exact absurd (K.inj (hpk ▸ rd_key hy) hkey) (h2 x hx)
  have hj : es[j]? = some e0 := by simpa using h2
  have hjl : j < es.toList.length := (List.getElem?_eq_some_iff.1 h2).1
  have hm0 : e0 ∈ es.toList := List.mem_of_getElem? h2
  have hkeyf : ∀ e', es[j]? = some e' → ({ e' with key := key, val := val } : MapEntry).key = e'.key := fun e' he' => by rw [hj] at he'; cases he'; exact h3.symm
  have hlist : (es.modify j (fun e' => { e' with key := key, val := val })).toList = es.toList.set j { e0 with key := key, val := val } := by rw [Array.toList_modify, modify_eq_set _ _ _ _ h2]
  have who : ∀ x ∈ es.toList.set j { e0 with key := key, val := val }, x = { e0 with key := key, val := val } ∨ (x ∈ es.toList ∧ x.key ≠ key) := by
    intro x hx
    obtain ⟨i, hi, ex⟩ := List.getElem_of_mem hx
    rw [List.getElem_set] at ex
    split at ex
    · exact Or.inl ex.symm
    · rename_i hne'
      have hi' : i < es.toList.length := by simpa using hi
      refine Or.inr ⟨ex ▸ List.getElem_mem hi', ?_⟩
      rw [← h3]
      exact other_key F h2 (by rw [List.getElem?_eq_getElem hi', ex]) (fun e1 => hne' e1.symm)
  have hrun : (Instr.mapUpdate t (.map (some b)) key val).run P w = .ok () (setBlock w b (.map (es.modify j (fun e' => { e' with key := key, val := val })) clock)) := by
    simp [Instr.mapUpdate, run_underlying ht, MapKept.run_getObj_map hb, K.check w false hkey, h1, hj, h3, K.stays w hkey, MapKept.run_setObj_map _ hb, Result.andThen, setBlock]
  have hF' : Go.WideElems.Fit P k R (es.modify j (fun e' => { e' with key := key, val := val })) clock := ⟨by simpa using F.size, stamped_modify F.stamped _ _ (fun _ _ => rfl) (fun e' _ he' => hkeyf e' he'), by
    intro x hx
    rw [hlist] at hx
    rcases who x hx with rfl | ⟨hx', _⟩
    · exact ⟨_, rd_mk hkey hv⟩
    · exact F.reads x hx'⟩
  have hmem0 : ({ e0 with key := key, val := val } : MapEntry) ∈ es.toList.set j { e0 with key := key, val := val } := List.mem_iff_getElem.2 ⟨j, by simpa using hjl, by simp⟩
  have hrg0 : (rg P k R { e0 with key := key, val := val }).1 = kl := by rw [rg_of (rd_mk hkey hv)]
  have hrge : (rg P k R e0).1 = kl := by
    obtain ⟨y, hy⟩ := F.reads e0 hm0
    have := rd_key hy
    rw [h3, hkey] at this
    rw [rg_of hy]
    exact (Option.some.inj this).symm
  refine ⟨_, hrun, ⟨es.modify j (fun e' => { e' with key := key, val := val }), clock, since, seen, c0, heap_setBlock_same hb _, hF', by simpa using hs, ?_, (heap_setBlock_other hb _ hne).trans hr, ?_, ?_, ?_, ?_, hsc, hsk⟩, ⟨es, clock, _, clock, hb, rfl⟩⟩
  · rw [DataW.put_eq]
    congr 1
    refine (sorted_put K.one ⟨key, hkey⟩ (fit_keys F) (fit_apart K F) ?_).symm
    rw [filter_one K F hkey h2 h3, hlist, List.map_set, rg_of (rd_mk hkey hv)]
    exact set_perm _ _ (by simpa using hjl) _
  · intro x hx
    rw [hlist] at hx
    rcases who x hx with rfl | ⟨hx', _⟩
    · exact hold e0 hm0
    · exact hold x hx'
  · have e1 : ∀ a : Array MapEntry, (leftOf a seen).size = (a.toList.filter fun e => !seen.contains e.born).length := fun a => by
      unfold leftOf
      rw [← Array.toList_filter, Array.length_toList]
    rw [← hcn, e1, e1, hlist]
    exact filter_len_map MapEntry.born (fun z => !seen.contains z) _ _ (map_set_same MapEntry.born h2 rfl)
  · intro x hx
    rw [hlist] at hx
    rcases who x hx with rfl | ⟨hx', _⟩
    · rw [hrg0, ← hrge]
      exact hl1 e0 hm0
    · exact hl1 x hx'
  · intro kl' hkl'
    obtain ⟨x, hx, hxk⟩ := hl2 kl' hkl'
    rw [hlist]
    by_cases e1 : x.key = key
    · have : kl' = kl := by
        obtain ⟨y, hy⟩ := F.reads x hx
        have := rd_key hy
        rw [e1, hkey] at this
        rw [← hxk, rg_of hy]
        exact (Option.some.inj this).symm
      subst this
      exact ⟨_, hmem0, hrg0⟩
    · obtain ⟨i, hi, ex⟩ := List.getElem_of_mem hx
      have hij : j ≠ i := by
        rintro rfl
        rw [List.getElem?_eq_getElem hi, ex] at h2
        injection h2 with h2
        rw [h2] at e1
        exact e1 h3
      exact ⟨x, List.mem_iff_getElem.2 ⟨i, by simpa using hi, by rw [List.getElem_set_ne hij]; exact ex⟩, hxk⟩

theorem wpList_ranges_store {ops : Array Oper} {rest : List Oper} {o : Oper} {a : Act} {Q : Exit → Act → World → Prop} (hg : o.guard = none) (m x v : Operand) (t : TypeId) (hop : o.op = Op.mapUpdate t m x v)
    (e : TypeId) (K : Keyed P k) (ht : P.underlying t = some (.map k e)) (hm : a.eval m = .map (some b)) (h : w.ranges P k R b r n D left cnt) (key val : Value) (kl : Lit) (hx : a.eval x = key) (hv : a.eval v = val) (hkey : keyOf P k key = some kl)
    (d : DataW H) (ps : List MemPlace) (hval : R val = some (d, ps)) (hth : Maps.has D kl = true)
    (hK : ∀ w', w'.ranges P k R b r n (D.put kl d) left cnt → w.mapTurned w' b → wpList P ops Q rest (a.put o.dst undef) w') : wpList P ops Q (o :: rest) a w := by
  refine wpList_plain hg fun K' hK' => ?_
  obtain ⟨w', hrun, r1, r2⟩ := ranges_store h K ht hkey hval hth
  unfold Oper.wp
  simp [execOp, hop, hm, hx, hv, hrun, Result.andThen]
  exact hK' _ _ (hK w' r1 r2)

/-- What is left behind maps.DeleteFunc. -/
theorem any_filter_key {pd : Lit → DataW H → Bool} {kl : Lit} : ∀ es : List (Lit × DataW H), es.Pairwise (fun p q => p.1 ≠ q.1) → ∀ {d : DataW H}, (kl, d) ∈ es → WideAt.IsKeyLit kl →
    ((es.filter fun p => !pd p.1 p.2).any fun p => p.1.sameKey kl) = !pd kl d := by
  intro es hp d hd hk
  cases hc : pd kl d
  · rw [Bool.not_false, List.any_eq_true]
    exact ⟨(kl, d), List.mem_filter.2 ⟨hd, by simp [hc]⟩, WideAt.sameKey_self hk⟩
  · rw [Bool.not_true, List.any_eq_false]
    intro p hpm hs
    obtain ⟨h1, h2⟩ := List.mem_filter.1 hpm
    have he := WideAt.sameKey_eq hs
    have : p = (kl, d) := by
      by_cases e : p = (kl, d)
      · exact e
      · exact absurd he (by
          have := List.pairwise_iff_getElem.1 hp
          obtain ⟨i, hi, ei⟩ := List.getElem_of_mem h1
          obtain ⟨j, hj, ej⟩ := List.getElem_of_mem hd
          rcases Nat.lt_trichotomy i j with hij | hij | hij
          · have := this i j hi hj hij; rw [ei, ej] at this; exact this
          · subst hij; rw [ei] at ej; exact absurd ej e
          · have := this j i hj hi hij; rw [ei, ej] at this; exact fun e => this e.symm)
    rw [this] at h2
    simp [hc] at h2
theorem has_mem {es : List (Lit × DataW H)} {kl : Lit} (h : Maps.has (.map es) kl = true) : ∃ d, (kl, d) ∈ es := by
  obtain ⟨p, hp, hs⟩ := List.any_eq_true.1 h
  have := WideAt.sameKey_eq hs
  exact ⟨p.2, by rw [← this]; exact hp⟩
/-- Of a map without a key twice: 'DeleteFunc' strikes the keys whose elements pd names. -/
theorem deleteFuncD_has {pd : Lit → DataW H → Bool} (hD : Tidy D) {kl : Lit} (hk : WideAt.IsKeyLit kl) (z : DataW H) : Maps.has (Lib.deleteFuncD pd D) kl = (Maps.has D kl && !pd kl (D.atKey kl z)) := by
  obtain ⟨es, rfl, hp⟩ := hD
  cases hh : Maps.has (.map es) kl
  · rw [Bool.false_and]
    have : (es.any fun p => p.1.sameKey kl) = false := hh
    show ((es.filter fun p => !pd p.1 p.2).any fun p => p.1.sameKey kl) = false
    rw [List.any_eq_false] at this ⊢
    exact fun p hpm => this p (List.mem_filter.1 hpm).1
  · obtain ⟨d, hd⟩ := has_mem hh
    rw [WideAt.atKey_mem z hk hp hd, Bool.true_and]
    exact any_filter_key es hp hd hk
theorem deleteFuncD_at {pd : Lit → DataW H → Bool} (hD : Tidy D) {kl : Lit} (hk : WideAt.IsKeyLit kl) (z : DataW H) : (Lib.deleteFuncD pd D).atKey kl z = if Maps.has D kl && !pd kl (D.atKey kl z) then D.atKey kl z else z := by
  have hh := deleteFuncD_has (pd := pd) hD hk z
  split
  · rename_i hc
    rw [hc] at hh
    obtain ⟨es, rfl, hp⟩ := hD
    simp only [Bool.and_eq_true] at hc
    obtain ⟨d, hd⟩ := has_mem hc.1
    have hpd := hc.2
    rw [WideAt.atKey_mem z hk hp hd] at hpd ⊢
    exact WideAt.atKey_mem z hk (hp.filter _) (List.mem_filter.2 ⟨hd, hpd⟩)
  · rename_i hc
    have hc : (Maps.has D kl && !pd kl (D.atKey kl z)) = false := by simpa using hc
    rw [hc] at hh
    exact atKey_of_not_has hh z
end
end Go.Proofs.Ytdpohbaeopidmaa

/- What an argument that can be read as data looks like, by its type: lemmas that open an argument. No function of the program in sight. -/
namespace Go.Proofs.Ytdpohbaeopidmaa
set_option linter.unusedVariables false
set_option linter.unusedSimpArgs false
open Go.RowKit Go.ChangeShapes Go.WideShapes Go.ChangeAt

/-- These cells read as a value of type t. -/
def Fit (P : Program) (w : World) (t : TypeId) (cs : List Value) : Prop :=
  ∃ (H : Type) (enc : TypeId × Value → H) (fuel : Nat) (x : DataW H × List MemPlace), DataW.trod enc P w 0 (fun _ => true) true fuel t cs = some x

/-- An argument of type t. -/
def Arg (P : Program) (w : World) (t : TypeId) (v : Value) : Prop := Fit P w t v.cells.toList ∧ ∃ r base, Value.okWide P w r base t v

section
variable {P : Program} {w : World} {t : TypeId} {cs : List Value} {v : Value}
theorem Arg.mk_ {H : Type} {enc : TypeId × Value → H} {d : DataW H} {p : List MemPlace} {r : Reach} {base : Nat} (h : DataW.Trod enc P w 0 (fun _ => true) true t v d p) (hv : Value.okWide P w r base t v) : Arg P w t v := by
  obtain ⟨fuel, hf⟩ := h
  exact ⟨⟨H, enc, fuel, _, hf⟩, r, base, hv⟩
theorem fit_bool (ht : P.underlying t = some .bool) (h : Fit P w t cs) : ∃ b, cs = [.bool b] := by
  obtain ⟨H, enc, fuel, x, h⟩ := h
  obtain ⟨b, h1, _⟩ := DataW.trod_bool ht h
  exact ⟨b, h1⟩
theorem fit_int {k : IntKind} (ht : P.underlying t = some (.int k)) (h : Fit P w t cs) : ∃ n, cs = [.int k n] ∧ (Lit.int k n).wf = true := by
  obtain ⟨H, enc, fuel, x, h⟩ := h
  obtain ⟨n, h1, _, h2⟩ := DataW.trod_int ht h
  exact ⟨n, h1, h2⟩
theorem fit_string (ht : P.underlying t = some .string) (h : Fit P w t cs) : ∃ s : ByteArray, cs = [.string s] ∧ s.size ≤ maxLen := by
  obtain ⟨H, enc, fuel, x, h⟩ := h
  obtain ⟨n, h1, _, h2⟩ := DataW.trod_string ht h
  exact ⟨n, h1, h2⟩
theorem fit_struct {fs : Array Field} (ht : P.underlying t = some (.struct fs)) (h : Fit P w t cs) :
    cs.length = P.cellsOf t ∧ ∀ (i : Nat) (f : Field), fs[i]? = some f → Fit P w f.type ((cs.drop f.offset).take (P.cellsOf f.type)) := by
  obtain ⟨H, enc, fuel, x, h⟩ := h
  obtain ⟨xs, n, _, _, hl, hx, hg⟩ := DataW.trod_struct ht h
  refine ⟨hl, fun i f hf => ?_⟩
  have hi : i < xs.length := by rw [hx]; exact (Array.getElem?_eq_some_iff.1 hf).1
  exact ⟨H, enc, n, xs[i], (hg i f hf).trans (List.getElem?_eq_getElem hi)⟩
theorem fit_array {n : Nat} {e : TypeId} (ht : P.underlying t = some (.array n e)) (h : Fit P w t cs) :
    cs.length = P.cellsOf t ∧ ∀ i, i < n → Fit P w e ((cs.drop (i * P.cellsOf e)).take (P.cellsOf e)) := by
  obtain ⟨H, enc, fuel, x, h⟩ := h
  obtain ⟨xs, m, _, _, hl, hx, hg⟩ := DataW.trod_array ht h
  refine ⟨hl, fun i hi => ?_⟩
  exact ⟨H, enc, m, xs[i], (hg i hi).trans (List.getElem?_eq_getElem (by omega))⟩
/-- A slice: its elements lie from an address on, c cells each. -/
theorem fit_slice {e : TypeId} {c : Nat} (ht : P.underlying t = some (.slice e)) (hc : P.cellsOf e = c) (h : Fit P w t cs) :
    ∃ A len cap, cs = [.slice A len cap] ∧ len ≤ cap ∧ cap ≤ maxLen ∧ (A = none → len = 0) ∧
      (∀ ad, A = some ad → ∀ i, i < len → ∃ cs', cs'.length = c ∧ (∀ j, j < c → w.cell? ((ad.add (i * c)).add j) = cs'[j]?) ∧ Fit P w e cs') := by
  obtain ⟨H, enc, fuel, x, h⟩ := h
  rcases DataW.trod_slice ht h with ⟨rfl, _⟩ | ⟨a, len, cap, elems, rest, n, _, rfl, _, _, hl, hm, hlen, hel, _, _⟩
  · exact ⟨none, 0, 0, rfl, Nat.le_refl _, by decide, fun _ => rfl, fun ad e => by cases e⟩
  · refine ⟨some a, len, cap, rfl, hl, hm, (fun e => by cases e), fun ad e i hi => ?_⟩
    injection e with e
    subst e
    have := hel i hi
    rw [List.getElem?_eq_getElem (by omega)] at this
    obtain ⟨cs', h1, h2⟩ := Option.bind_eq_some_iff.1 this
    obtain ⟨_, h3, h4⟩ := World.cells?_some h1
    subst hc
    exact ⟨cs', h3, h4, H, enc, n, _, h2⟩

theorem arg_bool (ht : P.underlying t = some .bool) (h : Arg P w t v) : ∃ b, v = .bool b := by
  obtain ⟨_, r, base, hv⟩ := h
  exact okWide_bool ht hv
theorem arg_int {k : IntKind} (ht : P.underlying t = some (.int k)) (h : Arg P w t v) : ∃ n, v = .int k n ∧ (Lit.int k n).wf = true := by
  obtain ⟨hf, r, base, hv⟩ := h
  obtain ⟨n, rfl⟩ := okWide_int ht hv
  obtain ⟨m, h1, h2⟩ := fit_int ht hf
  simp [Value.cells] at h1
  subst h1
  exact ⟨n, rfl, h2⟩
theorem arg_string (ht : P.underlying t = some .string) (h : Arg P w t v) : ∃ s : ByteArray, v = .string s ∧ s.size ≤ maxLen := by
  obtain ⟨hf, r, base, hv⟩ := h
  obtain ⟨n, rfl⟩ := okWide_string ht hv
  obtain ⟨m, h1, h2⟩ := fit_string ht hf
  simp [Value.cells] at h1
  subst h1
  exact ⟨n, rfl, h2⟩
theorem arg_slice {e : TypeId} (ht : P.underlying t = some (.slice e)) (h : Arg P w t v) : Fit P w t [v] := by
  obtain ⟨hf, r, base, hv⟩ := h
  obtain ⟨a, len, cap, rfl⟩ := okWide_slice ht hv
  exact hf
theorem arg_struct {fs : Array Field} (ht : P.underlying t = some (.struct fs)) (h : Arg P w t v) : ∃ cs, v = .agg ⟨cs⟩ ∧ Fit P w t cs := by
  obtain ⟨hf, r, base, hv⟩ := h
  obtain ⟨cs, rfl, _⟩ := okWide_struct ht hv
  exact ⟨cs.toList, rfl, hf⟩
theorem arg_array {n : Nat} {e : TypeId} (ht : P.underlying t = some (.array n e)) (h : Arg P w t v) : ∃ cs, v = .agg ⟨cs⟩ ∧ Fit P w t cs := by
  obtain ⟨hf, r, base, hv⟩ := h
  simp only [Value.okWide, ht] at hv
  obtain ⟨cs, rfl, _, _⟩ := hv
  exact ⟨cs.toList, rfl, hf⟩
end

/-! ### Slices as lists of data: 'Row': element i lies at 'off + i * c', its cells are 'enc x'; 'Row1': elements of one cell. -/
theorem cell_lt {w : World} {a : Addr} {v : Value} (h : w.cell? a = some v) : a.block < w.heap.size := by
  rcases Nat.lt_or_ge a.block w.heap.size with hlt | hge
  · exact hlt
  · have e : w.heap[a.block]? = none := by simp [hge]
    simp [World.cell?, e] at h

def Row {E : Type} (w : World) (A : Option Addr) (c : Nat) (enc : E → List Value) (xs : List E) : Prop :=
  ∀ i x, xs[i]? = some x → ∃ b off, A = some ⟨b, off, none⟩ ∧ b < w.heap.size ∧ ∀ j u, (enc x)[j]? = some u → w.cell? ⟨b, off + i * c + j, none⟩ = some u
def Row1 {E : Type} (w : World) (A : Option Addr) (enc : E → Value) (xs : List E) : Prop :=
  ∀ i x, xs[i]? = some x → ∃ b off, A = some ⟨b, off, none⟩ ∧ b < w.heap.size ∧ w.cell? ⟨b, off + i, none⟩ = some (enc x)

theorem Row.below {E : Type} {w w' : World} {A : Option Addr} {c : Nat} {enc : E → List Value} {xs : List E} (h : Row w A c enc xs) (hb : Below w.heap.size w w') : Row w' A c enc xs := by
  intro i x hx
  obtain ⟨b, off, hA, hlt, hc⟩ := h i x hx
  exact ⟨b, off, hA, Nat.lt_of_lt_of_le hlt hb.size, fun j u hu => (hb.cell (p := ⟨b, _, none⟩) hlt).trans (hc j u hu)⟩
theorem Row1.below {E : Type} {w w' : World} {A : Option Addr} {enc : E → Value} {xs : List E} (h : Row1 w A enc xs) (hb : Below w.heap.size w w') : Row1 w' A enc xs := by
  intro i x hx
  obtain ⟨b, off, hA, hlt, hc⟩ := h i x hx
  exact ⟨b, off, hA, Nat.lt_of_lt_of_le hlt hb.size, (hb.cell (p := ⟨b, _, none⟩) hlt).trans hc⟩
theorem Row1.at_ {E : Type} {w : World} {A : Option Addr} {enc : E → Value} {xs : List E} (h : Row1 w A enc xs) {i : Nat} (hi : i < xs.length) : ∃ b off, A = some ⟨b, off, none⟩ ∧ b < w.heap.size ∧ w.cell? ⟨b, off + i, none⟩ = some (enc xs[i]) :=
  h i _ (List.getElem?_eq_getElem hi)
theorem Row.at_ {E : Type} {w : World} {A : Option Addr} {c : Nat} {enc : E → List Value} {xs : List E} (h : Row w A c enc xs) {i : Nat} (hi : i < xs.length) : ∃ b off, A = some ⟨b, off, none⟩ ∧ b < w.heap.size ∧ ∀ j u, (enc xs[i])[j]? = some u → w.cell? ⟨b, off + i * c + j, none⟩ = some u :=
  h i _ (List.getElem?_eq_getElem hi)

/-- An element in a later world. -/
theorem Row1.in_ {E : Type} {w w' : World} {A : Option Addr} {enc : E → Value} {xs : List E} (h : Row1 w A enc xs) (hb : Below w.heap.size w w') {i : Nat} (hi : i < xs.length) : ∃ b off, A = some ⟨b, off, none⟩ ∧ b < w.heap.size ∧ w'.cell? ⟨b, off + i, none⟩ = some (enc xs[i]) := by
  obtain ⟨b, off, hA, hlt, hc⟩ := h.at_ hi
  exact ⟨b, off, hA, hlt, (hb.cell (p := ⟨b, _, none⟩) hlt).trans hc⟩
theorem Row.in_ {E : Type} {w w' : World} {A : Option Addr} {c : Nat} {enc : E → List Value} {xs : List E} (h : Row w A c enc xs) (hb : Below w.heap.size w w') {i : Nat} (hi : i < xs.length) : ∃ b off, A = some ⟨b, off, none⟩ ∧ b < w.heap.size ∧ ∀ j u, (enc xs[i])[j]? = some u → w'.cell? ⟨b, off + i * c + j, none⟩ = some u := by
  obtain ⟨b, off, hA, hlt, hc⟩ := h.at_ hi
  exact ⟨b, off, hA, hlt, fun j u hu => (hb.cell (p := ⟨b, _, none⟩) hlt).trans (hc j u hu)⟩

theorem list_of {E : Type} (n : Nat) (p : Nat → E → Prop) (h : ∀ i, i < n → ∃ x, p i x) : ∃ xs : List E, xs.length = n ∧ ∀ i x, xs[i]? = some x → p i x := by
  induction n with
  | zero => exact ⟨[], rfl, fun i x hx => by simp at hx⟩
  | succ n ih =>
    obtain ⟨xs, hl, hp⟩ := ih (fun i hi => h i (by omega))
    obtain ⟨x, hx⟩ := h n (by omega)
    refine ⟨xs ++ [x], by simp [hl], fun i y hy => ?_⟩
    by_cases hi : i < n
    · rw [List.getElem?_append_left (by omega)] at hy
      exact hp i y hy
    · have : i = n := by
        have := (List.getElem?_eq_some_iff.1 hy).1
        simp at this
        omega
      subst this
      rw [List.getElem?_append_right (by omega)] at hy
      simp [hl] at hy
      subst hy
      exact hx

section
variable {P : Program} {w : World} {t e : TypeId} {v : Value} {E : Type}
theorem fit_row {c : Nat} (enc : E → List Value) (good : E → Prop) (ht : P.underlying t = some (.slice e)) (hc : P.cellsOf e = c) (hpos : 0 < c)
    (hE : ∀ cs', cs'.length = c → Fit P w e cs' → ∃ x, cs' = enc x ∧ good x) (h : Fit P w t [v]) :
    ∃ A len cap, ∃ xs : List E, v = .slice A len cap ∧ len ≤ cap ∧ cap ≤ maxLen ∧ xs.length = len ∧ (∀ x ∈ xs, good x) ∧ Row w A c enc xs := by
  obtain ⟨A, len, cap, hv, hl, hm, hn, hr⟩ := fit_slice ht hc h
  injection hv with hv _
  subst hv
  rcases A with _ | ad
  · obtain rfl := hn rfl
    exact ⟨none, 0, cap, [], rfl, hl, hm, rfl, (fun x hx => by simp at hx), fun i x hx => by simp at hx⟩
  · obtain ⟨xs, hlen, hp⟩ := list_of len (fun i x => (∀ j, j < c → w.cell? ((ad.add (i * c)).add j) = (enc x)[j]?) ∧ (enc x).length = c ∧ good x) (fun i hi => by
      obtain ⟨cs', h1, h2, h3⟩ := hr ad rfl i hi
      obtain ⟨x, rfl, hg⟩ := hE cs' h1 h3
      exact ⟨x, h2, h1, hg⟩)
    refine ⟨some ad, len, cap, xs, rfl, hl, hm, hlen, (fun x hx => ?_), fun i x hx => ?_⟩
    · obtain ⟨i, hi, rfl⟩ := List.getElem_of_mem hx
      exact (hp i _ (List.getElem?_eq_getElem hi)).2.2
    · have hi : i < len := by have := (List.getElem?_eq_some_iff.1 hx).1; omega
      obtain ⟨h0, _, _⟩ := hp 0 _ (List.getElem?_eq_getElem (by omega))
      obtain ⟨h2, h1, _⟩ := hp i x hx
      have q0 := h0 0 hpos
      obtain ⟨_, h1', _⟩ := hp 0 _ (List.getElem?_eq_getElem (by omega))
      rw [List.getElem?_eq_getElem (by omega)] at q0
      have hs := World.cell?_spot q0
      simp [Addr.add] at hs
      obtain ⟨b, off, spot⟩ := ad
      simp at hs
      subst hs
      refine ⟨b, off, rfl, ?_, fun j u hu => ?_⟩
      · have := cell_lt q0
        simpa [Addr.add] using this
      · have hj : j < c := by have := (List.getElem?_eq_some_iff.1 hu).1; omega
        have := h2 j hj
        rw [hu] at this
        rw [← this]
        congr 1
        unfold Addr.add
        by_cases k1 : i * c = 0 <;> by_cases k2 : j = 0 <;> simp [k1, k2, Nat.add_assoc]

theorem fit_row1 (enc : E → Value) (good : E → Prop) (ht : P.underlying t = some (.slice e)) (hc : P.cellsOf e = 1)
    (hE : ∀ cs', Fit P w e cs' → ∃ x, cs' = [enc x] ∧ good x) (h : Fit P w t [v]) :
    ∃ A len cap, ∃ xs : List E, v = .slice A len cap ∧ len ≤ cap ∧ cap ≤ maxLen ∧ xs.length = len ∧ (∀ x ∈ xs, good x) ∧ Row1 w A enc xs := by
  obtain ⟨A, len, cap, xs, h1, h2, h3, h4, h5, h6⟩ := fit_row (fun x => [enc x]) good ht hc (by omega) (fun cs' _ hf => hE cs' hf) h
  refine ⟨A, len, cap, xs, h1, h2, h3, h4, h5, fun i x hx => ?_⟩
  obtain ⟨b, off, hA, hb, hj⟩ := h6 i x hx
  exact ⟨b, off, hA, hb, by simpa using hj 0 _ rfl⟩

theorem arg_ints {k : IntKind} (ht : P.underlying t = some (.slice e)) (he : P.underlying e = some (.int k)) (hc : P.cellsOf e = 1) (h : Arg P w t v) :
    ∃ A len cap, ∃ xs : List Int, v = .slice A len cap ∧ len ≤ cap ∧ cap ≤ maxLen ∧ xs.length = len ∧ (∀ x ∈ xs, (Lit.int k x).wf = true) ∧ Row1 w A (Value.int k) xs :=
  fit_row1 _ _ ht hc (fun _ hf => fit_int he hf) (arg_slice ht h)
theorem arg_bools (ht : P.underlying t = some (.slice e)) (he : P.underlying e = some .bool) (hc : P.cellsOf e = 1) (h : Arg P w t v) :
    ∃ A len cap, ∃ xs : List Bool, v = .slice A len cap ∧ len ≤ cap ∧ cap ≤ maxLen ∧ xs.length = len ∧ Row1 w A Value.bool xs := by
  obtain ⟨A, len, cap, xs, h1, h2, h3, h4, _, h5⟩ := fit_row1 (E := Bool) Value.bool (fun _ => True) ht hc (fun _ hf => by obtain ⟨b, hb⟩ := fit_bool he hf; exact ⟨b, hb, trivial⟩) (arg_slice ht h)
  exact ⟨A, len, cap, xs, h1, h2, h3, h4, h5⟩
theorem arg_strings (ht : P.underlying t = some (.slice e)) (he : P.underlying e = some .string) (hc : P.cellsOf e = 1) (h : Arg P w t v) :
    ∃ A len cap, ∃ xs : List ByteArray, v = .slice A len cap ∧ len ≤ cap ∧ cap ≤ maxLen ∧ xs.length = len ∧ (∀ x ∈ xs, x.size ≤ maxLen) ∧ Row1 w A Value.string xs :=
  fit_row1 _ _ ht hc (fun _ hf => fit_string he hf) (arg_slice ht h)
end
end Go.Proofs.Ytdpohbaeopidmaa

/- Structs by value as arguments: a struct of one-cell fields; short lists by their elements. -/
namespace Go.Proofs.Ytdpohbaeopidmaa
set_option linter.unusedVariables false
set_option linter.unusedSimpArgs false
open Go.RowKit Go.ChangeShapes Go.WideShapes Go.ChangeAt Go.Deep

theorem list2_of {α : Type} {l : List α} {a0 a1 : α} (hl : l.length = 2) (h0 : l[0]? = some a0) (h1 : l[1]? = some a1) : l = [a0, a1] := by
  match l, hl with
  | [x0, x1], _ => simp at h0 h1; rw [h0, h1]
theorem list3_of {α : Type} {l : List α} {a0 a1 a2 : α} (hl : l.length = 3) (h0 : l[0]? = some a0) (h1 : l[1]? = some a1) (h2 : l[2]? = some a2) : l = [a0, a1, a2] := by
  match l, hl with
  | [x0, x1, x2], _ => simp at h0 h1 h2; rw [h0, h1, h2]
theorem list4_of {α : Type} {l : List α} {a0 a1 a2 a3 : α} (hl : l.length = 4) (h0 : l[0]? = some a0) (h1 : l[1]? = some a1) (h2 : l[2]? = some a2) (h3 : l[3]? = some a3) : l = [a0, a1, a2, a3] := by
  match l, hl with
  | [x0, x1, x2, x3], _ => simp at h0 h1 h2 h3; rw [h0, h1, h2, h3]
theorem list5_of {α : Type} {l : List α} {a0 a1 a2 a3 a4 : α} (hl : l.length = 5) (h0 : l[0]? = some a0) (h1 : l[1]? = some a1) (h2 : l[2]? = some a2) (h3 : l[3]? = some a3) (h4 : l[4]? = some a4) : l = [a0, a1, a2, a3, a4] := by
  match l, hl with
  | [x0, x1, x2, x3, x4], _ => simp at h0 h1 h2 h3 h4; rw [h0, h1, h2, h3, h4]

theorem take1_drop {α : Type} {l : List α} {i : Nat} {v : α} (h : (l.drop i).take 1 = [v]) : l[i]? = some v := by
  have : ((l.drop i).take 1)[0]? = some v := by rw [h]; rfl
  rw [List.getElem?_take_of_lt (by omega), List.getElem?_drop] at this
  simpa using this

section
variable {P : Program} {w : World} {t : TypeId} {cs : List Value}
/-- Each field's cells are those from its offset on. -/
theorem fit_fields {fs : Array Field} (n : Nat) (ht : P.underlying t = some (.struct fs)) (hC : P.cellsOf t = n) (h : Fit P w t cs) :
    cs.length = n ∧ ∀ (i o e c : Nat), (fs[i]?).map (fun f => (f.offset, f.type)) = some (o, e) → P.cellsOf e = c → Fit P w e ((cs.drop o).take c) := by
  obtain ⟨hl, hx⟩ := fit_struct ht h
  refine ⟨by rw [hl, hC], fun i o e c hf hc => ?_⟩
  cases hfi : fs[i]? with
  | none => rw [hfi] at hf; cases hf
  | some f =>
    rw [hfi] at hf
    simp only [Option.map_some, Option.some.injEq, Prod.mk.injEq] at hf
    obtain ⟨rfl, rfl⟩ := hf
    have := hx i f hfi
    rwa [hc] at this
theorem cell_int {k : IntKind} (ht : P.underlying t = some (.int k)) {i : Nat} (h : Fit P w t ((cs.drop i).take 1)) : ∃ n, cs[i]? = some (.int k n) ∧ (Lit.int k n).wf = true := by
  obtain ⟨n, h1, h2⟩ := fit_int ht h
  exact ⟨n, take1_drop h1, h2⟩
theorem cell_bool (ht : P.underlying t = some .bool) {i : Nat} (h : Fit P w t ((cs.drop i).take 1)) : ∃ b, cs[i]? = some (.bool b) := by
  obtain ⟨n, h1⟩ := fit_bool ht h
  exact ⟨n, take1_drop h1⟩
theorem cell_string (ht : P.underlying t = some .string) {i : Nat} (h : Fit P w t ((cs.drop i).take 1)) : ∃ s : ByteArray, cs[i]? = some (.string s) ∧ s.size ≤ maxLen := by
  obtain ⟨n, h1, h2⟩ := fit_string ht h
  exact ⟨n, take1_drop h1, h2⟩
end
end Go.Proofs.Ytdpohbaeopidmaa
