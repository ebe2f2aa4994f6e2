/- Maps: a store at a key that is there, in the round of a range over that very map; what is left behind maps.DeleteFunc. No program in sight. -/
import Derived.Test.YtdpohbaeopidmaaKOwnersExact00
import Derived.Maps.RangeWalk
import Derived.Maps.Ext
import Derived.Lib.SlMapFilter
import Derived.Test.YtdpohbaeopidmaaKOwnersExact07
import Derived.Test.YtdpohbaeopidmaaKOwnersExact02
import Derived.Shelf.AbstractIn
import Derived.TacticsInMore
import Derived.Lib.SlKeysI
import Derived.Shelf.SlIterI.Nil
import Derived.Shelf.SortM.Plain
import Derived.Shelf.SortM.SortNone
import Derived.Ground.GgzProg
import Derived.Ground.SlgmProg
import Derived.Test.YtdpohbaeopidmaaProg
import Derived.Test.YtdpohbaeopidmaaKOwnersExact09
namespace Go.Proofs.Ytdpohbaeopidmaa
set_option linter.unusedVariables false
set_option linter.unusedSimpArgs false
open Go.RowKit Go.Maps Go.ChangeMaps Go.MapKept Go.WideShapes
open Go.WideElems (Fit rd rg pl rd_key rd_val rg_of rd_mk other_key)

section
variable {H : Type} {P : Program} {k : TypeId} {R : Value → Option (DataW H × List MemPlace)} {w : World} {b r n : Nat} {D : DataW H} {left : Lit → Bool} {cnt : Nat}

theorem has_entries {l : List (Lit × DataW H)} {kl : Lit} (h : Maps.has (.map (l.foldr DataW.insert [])) kl = true) : ∃ p ∈ l, p.1 = kl := by
  obtain ⟨p, hp, hs⟩ := List.any_eq_true.1 h
  exact ⟨p, mem_sorted.1 hp, WideAt.sameKey_eq hs⟩
theorem filter_len_map {α β : Type} (f : α → β) (p : β → Bool) (l l' : List α) (h : l.map f = l'.map f) : (l.filter fun x => p (f x)).length = (l'.filter fun x => p (f x)).length := by
  have e : ∀ m : List α, (m.filter fun x => p (f x)).length = ((m.map f).filter p).length := fun m => by
    rw [List.filter_map, List.length_map]
    rfl
  rw [e, e, h]
theorem map_set_same {α β : Type} (f : α → β) {l : List α} {j : Nat} {x y : α} (h : l[j]? = some x) (hf : f y = f x) : (l.set j y).map f = l.map f := by
  rw [List.map_set, hf]
  apply List.ext_getElem?
  intro i
  by_cases e : j = i
  · subst e
    rw [List.getElem?_set_self (by simpa using (List.getElem?_eq_some_iff.1 h).1)]
    simp [h]
  · rw [List.getElem?_set_ne e]

/-- 'm[k] = v' at a key that is there, in the round. -/
theorem ranges_store {t e : TypeId} (h : w.ranges P k R b r n D left cnt) (K : Keyed P k) (ht : P.underlying t = some (.map k e)) {key val : Value} {kl : Lit} {d : DataW H} {ps : List MemPlace} (hkey : keyOf P k key = some kl) (hv : R val = some (d, ps)) (hth : Maps.has D kl = true) :
    ∃ w', (Instr.mapUpdate t (.map (some b)) key val).run P w = .ok () w' ∧ w'.ranges P k R b r n (D.put kl d) left cnt ∧ w.mapTurned w' b := by
  have hne := h.ne
  obtain ⟨es, clock, since, seen, c0, hb, F, hs, rfl, hr, hold, hcn, hl1, hl2, hsc, hsk⟩ := h
  rcases K.find w hkey es.toList F.keys with ⟨_, h2⟩ | ⟨j, e0, h1, h2, h3⟩
  · obtain ⟨p, hp, hpk⟩ := has_entries hth
    obtain ⟨x, hx, rfl⟩ := List.mem_map.1 hp
    obtain ⟨y, hy⟩ := F.reads x hx
    rw [rg_of hy] at hpk
    exact absurd (K.inj (hpk ▸ rd_key hy) hkey) (h2 x hx)
  have hj : es[j]? = some e0 := by simpa using h2
  have hjl : j < es.toList.length := (List.getElem?_eq_some_iff.1 h2).1
  have hm0 : e0 ∈ es.toList := List.mem_of_getElem? h2
  have hkeyf : ∀ e', es[j]? = some e' → ({ e' with key := key, val := val } : MapEntry).key = e'.key := fun e' he' => by rw [hj] at he'; cases he'; exact h3.symm
  have hlist : (es.modify j (fun e' => { e' with key := key, val := val })).toList = es.toList.set j { e0 with key := key, val := val } := by rw [Array.toList_modify, modify_eq_set _ _ _ _ h2]
  have who : ∀ x ∈ es.toList.set j { e0 with key := key, val := val }, x = { e0 with key := key, val := val } ∨ (x ∈ es.toList ∧ x.key ≠ key) := by
    intro x hx
    obtain ⟨i, hi, ex⟩ := List.getElem_of_mem hx
    rw [List.getElem_set] at ex
    split at ex
    · exact Or.inl ex.symm
    · rename_i hne'
      have hi' : i < es.toList.length := by simpa using hi
      refine Or.inr ⟨ex ▸ List.getElem_mem hi', ?_⟩
      rw [← h3]
      exact other_key F h2 (by rw [List.getElem?_eq_getElem hi', ex]) (fun e1 => hne' e1.symm)
  have hrun : (Instr.mapUpdate t (.map (some b)) key val).run P w = .ok () (setBlock w b (.map (es.modify j (fun e' => { e' with key := key, val := val })) clock)) := by
    simp [Instr.mapUpdate, run_underlying ht, MapKept.run_getObj_map hb, K.check w false hkey, h1, hj, h3, K.stays w hkey, MapKept.run_setObj_map _ hb, Result.andThen, setBlock]
  have hF' : Go.WideElems.Fit P k R (es.modify j (fun e' => { e' with key := key, val := val })) clock := ⟨by simpa using F.size, stamped_modify F.stamped _ _ (fun _ _ => rfl) (fun e' _ he' => hkeyf e' he'), by
    intro x hx
    rw [hlist] at hx
    rcases who x hx with rfl | ⟨hx', _⟩
    · exact ⟨_, rd_mk hkey hv⟩
    · exact F.reads x hx'⟩
  have hmem0 : ({ e0 with key := key, val := val } : MapEntry) ∈ es.toList.set j { e0 with key := key, val := val } := List.mem_iff_getElem.2 ⟨j, by simpa using hjl, by simp⟩
  have hrg0 : (rg P k R { e0 with key := key, val := val }).1 = kl := by rw [rg_of (rd_mk hkey hv)]
  have hrge : (rg P k R e0).1 = kl := by
    obtain ⟨y, hy⟩ := F.reads e0 hm0
    have := rd_key hy
    rw [h3, hkey] at this
    rw [rg_of hy]
    exact (Option.some.inj this).symm
  refine ⟨_, hrun, ⟨es.modify j (fun e' => { e' with key := key, val := val }), clock, since, seen, c0, heap_setBlock_same hb _, hF', by simpa using hs, ?_, (heap_setBlock_other hb _ hne).trans hr, ?_, ?_, ?_, ?_, hsc, hsk⟩, ⟨es, clock, _, clock, hb, rfl⟩⟩
  · rw [DataW.put_eq]
    congr 1
    refine (sorted_put K.one ⟨key, hkey⟩ (fit_keys F) (fit_apart K F) ?_).symm
    rw [filter_one K F hkey h2 h3, hlist, List.map_set, rg_of (rd_mk hkey hv)]
    exact set_perm _ _ (by simpa using hjl) _
  · intro x hx
    rw [hlist] at hx
    rcases who x hx with rfl | ⟨hx', _⟩
    · exact hold e0 hm0
    · exact hold x hx'
  · have e1 : ∀ a : Array MapEntry, (leftOf a seen).size = (a.toList.filter fun e => !seen.contains e.born).length := fun a => by
      unfold leftOf
      rw [← Array.toList_filter, Array.length_toList]
    rw [← hcn, e1, e1, hlist]
    exact filter_len_map MapEntry.born (fun z => !seen.contains z) _ _ (map_set_same MapEntry.born h2 rfl)
  · intro x hx
    rw [hlist] at hx
    rcases who x hx with rfl | ⟨hx', _⟩
    · rw [hrg0, ← hrge]
      exact hl1 e0 hm0
    · exact hl1 x hx'
  · intro kl' hkl'
    obtain ⟨x, hx, hxk⟩ := hl2 kl' hkl'
    rw [hlist]
    by_cases e1 : x.key = key
    · have : kl' = kl := by
        obtain ⟨y, hy⟩ := F.reads x hx
        have := rd_key hy
        rw [e1, hkey] at this
        rw [← hxk, rg_of hy]
        exact (Option.some.inj this).symm
      subst this
      exact ⟨_, hmem0, hrg0⟩
    · obtain ⟨i, hi, ex⟩ := List.getElem_of_mem hx
      have hij : j ≠ i := by
        rintro rfl
        rw [List.getElem?_eq_getElem hi, ex] at h2
        injection h2 with h2
        rw [h2] at e1
        exact e1 h3
      exact ⟨x, List.mem_iff_getElem.2 ⟨i, by simpa using hi, by rw [List.getElem_set_ne hij]; exact ex⟩, hxk⟩

theorem wpList_ranges_store {ops : Array Oper} {rest : List Oper} {o : Oper} {a : Act} {Q : Exit → Act → World → Prop} (hg : o.guard = none) (m x v : Operand) (t : TypeId) (hop : o.op = Op.mapUpdate t m x v)
    (e : TypeId) (K : Keyed P k) (ht : P.underlying t = some (.map k e)) (hm : a.eval m = .map (some b)) (h : w.ranges P k R b r n D left cnt) (key val : Value) (kl : Lit) (hx : a.eval x = key) (hv : a.eval v = val) (hkey : keyOf P k key = some kl)
    (d : DataW H) (ps : List MemPlace) (hval : R val = some (d, ps)) (hth : Maps.has D kl = true)
    (hK : ∀ w', w'.ranges P k R b r n (D.put kl d) left cnt → w.mapTurned w' b → wpList P ops Q rest (a.put o.dst undef) w') : wpList P ops Q (o :: rest) a w := by
  refine wpList_plain hg fun K' hK' => ?_
  obtain ⟨w', hrun, r1, r2⟩ := ranges_store h K ht hkey hval hth
  unfold Oper.wp
  simp [execOp, hop, hm, hx, hv, hrun, Result.andThen]
  exact hK' _ _ (hK w' r1 r2)

/-- What is left behind maps.DeleteFunc. -/
theorem any_filter_key {pd : Lit → DataW H → Bool} {kl : Lit} : ∀ es : List (Lit × DataW H), es.Pairwise (fun p q => p.1 ≠ q.1) → ∀ {d : DataW H}, (kl, d) ∈ es → WideAt.IsKeyLit kl →
    ((es.filter fun p => !pd p.1 p.2).any fun p => p.1.sameKey kl) = !pd kl d := by
  intro es hp d hd hk
  cases hc : pd kl d
  · rw [Bool.not_false, List.any_eq_true]
    exact ⟨(kl, d), List.mem_filter.2 ⟨hd, by simp [hc]⟩, WideAt.sameKey_self hk⟩
  · rw [Bool.not_true, List.any_eq_false]
    intro p hpm hs
    obtain ⟨h1, h2⟩ := List.mem_filter.1 hpm
    have he := WideAt.sameKey_eq hs
    have : p = (kl, d) := by
      by_cases e : p = (kl, d)
      · exact e
      · exact absurd he (by
          have := List.pairwise_iff_getElem.1 hp
          obtain ⟨i, hi, ei⟩ := List.getElem_of_mem h1
          obtain ⟨j, hj, ej⟩ := List.getElem_of_mem hd
          rcases Nat.lt_trichotomy i j with hij | hij | hij
          · have := this i j hi hj hij; rw [ei, ej] at this; exact this
          · subst hij; rw [ei] at ej; exact absurd ej e
          · have := this j i hj hi hij; rw [ei, ej] at this; exact fun e => this e.symm)
    rw [this] at h2
    simp [hc] at h2
theorem has_mem {es : List (Lit × DataW H)} {kl : Lit} (h : Maps.has (.map es) kl = true) : ∃ d, (kl, d) ∈ es := by
  obtain ⟨p, hp, hs⟩ := List.any_eq_true.1 h
  have := WideAt.sameKey_eq hs
  exact ⟨p.2, by rw [← this]; exact hp⟩
/-- Of a map without a key twice: 'DeleteFunc' strikes the keys whose elements pd names. -/
theorem deleteFuncD_has {pd : Lit → DataW H → Bool} (hD : Tidy D) {kl : Lit} (hk : WideAt.IsKeyLit kl) (z : DataW H) : Maps.has (Lib.deleteFuncD pd D) kl = (Maps.has D kl && !pd kl (D.atKey kl z)) := by
  obtain ⟨es, rfl, hp⟩ := hD
  cases hh : Maps.has (.map es) kl
  · rw [Bool.false_and]
    have : (es.any fun p => p.1.sameKey kl) = false := hh
    show ((es.filter fun p => !pd p.1 p.2).any fun p => p.1.sameKey kl) = false
    rw [List.any_eq_false] at this ⊢
    exact fun p hpm => this p (List.mem_filter.1 hpm).1
  · obtain ⟨d, hd⟩ := has_mem hh
    rw [WideAt.atKey_mem z hk hp hd, Bool.true_and]
    exact any_filter_key es hp hd hk
theorem deleteFuncD_at {pd : Lit → DataW H → Bool} (hD : Tidy D) {kl : Lit} (hk : WideAt.IsKeyLit kl) (z : DataW H) : (Lib.deleteFuncD pd D).atKey kl z = if Maps.has D kl && !pd kl (D.atKey kl z) then D.atKey kl z else z := by
  have hh := deleteFuncD_has (pd := pd) hD hk z
  split
  · rename_i hc
    rw [hc] at hh
    obtain ⟨es, rfl, hp⟩ := hD
    simp only [Bool.and_eq_true] at hc
    obtain ⟨d, hd⟩ := has_mem hc.1
    have hpd := hc.2
    rw [WideAt.atKey_mem z hk hp hd] at hpd ⊢
    exact WideAt.atKey_mem z hk (hp.filter _) (List.mem_filter.2 ⟨hd, hpd⟩)
  · rename_i hc
    have hc : (Maps.has D kl && !pd kl (D.atKey kl z)) = false := by simpa using hc
    rw [hc] at hh
    exact atKey_of_not_has hh z
end
end Go.Proofs.Ytdpohbaeopidmaa

/- Maps: their keys, rising. -/
namespace Go.Proofs.Ytdpohbaeopidmaa
set_option linter.unusedVariables false
set_option linter.unusedSimpArgs false
open Go.RowKit Go.Maps Go.Shelf Go.Sort

/-- The numbers 1 .. 1023 of which P holds, rising. -/
def riseL (P : Int → Bool) : List Int := ((List.range 1023).map fun (i : Nat) => ((i + 1 : Nat) : Int)).filter P
theorem mem_riseL {P : Int → Bool} {x : Int} : x ∈ riseL P ↔ (1 ≤ x ∧ x ≤ 1023) ∧ P x = true := by
  unfold riseL
  rw [List.mem_filter, List.mem_map]
  refine and_congr_left fun _ => ⟨?_, fun h => ⟨(x - 1).toNat, by rw [List.mem_range]; omega, by omega⟩⟩
  rintro ⟨i, hi, rfl⟩
  rw [List.mem_range] at hi
  omega
theorem riseL_rising (P : Int → Bool) : (riseL P).Pairwise (fun a b => a < b) :=
  List.Pairwise.filter _ (by rw [List.pairwise_map]; exact List.pairwise_lt_range.imp (fun {a b} h => by omega))
theorem riseL_nodup (P : Int → Bool) : (riseL P).Nodup := (riseL_rising P).imp (fun {a b} h e => by omega)
theorem riseL_sorted (P : Int → Bool) : (riseL P).mergeSort leI = riseL P :=
  List.mergeSort_of_pairwise ((riseL_rising P).imp (fun {a b} h => by simp [leI]; omega))
theorem riseL_congr {P Q : Int → Bool} (h : ∀ i, 1 ≤ i → i ≤ 1023 → P i = Q i) : riseL P = riseL Q := by
  unfold riseL
  refine List.filter_congr fun x hx => ?_
  obtain ⟨i, hi, rfl⟩ := List.mem_map.1 hx
  rw [List.mem_range] at hi
  exact h _ (by omega) (by omega)
theorem riseL_le (P : Int → Bool) : (riseL P).length ≤ 1023 := by
  have := List.length_filter_le P ((List.range 1023).map fun (i : Nat) => ((i + 1 : Nat) : Int))
  simpa [riseL] using this
theorem keys_perm {w : World} {b n : Nat} {D : DataW Value} {m : Int → Option Value} (hown : w.ownsMap Try.prog 3 heldE b n D) (hD : SaysV D m) (L : List Int) (hnd : L.Nodup) (hL : ∀ x, x ∈ L ↔ wfV x ∧ (m x).isSome = true) : L.Perm (intKeys D) := by
  obtain ⟨es, clock, hb, F, hs, rfl⟩ := id hown
  obtain ⟨es', he, hp⟩ := hown.tidy law_intV
  injection he with he
  have hk : ∀ p ∈ es', ∃ x, p.1 = .int .i64 x ∧ wfV x := by
    intro p hpm
    rw [← he] at hpm
    obtain ⟨x, hx, rfl⟩ := List.mem_map.1 (mem_sorted.1 hpm)
    obtain ⟨y, hy⟩ := F.reads x hx
    obtain ⟨a, _, h2, h3⟩ := Maps.keyOf_int_inv Try.underlying3 (Go.WideElems.rd_key hy)
    exact ⟨a, by rw [Go.WideElems.rg_of hy]; exact h2, h3⟩
  rw [he] at hD ⊢
  refine perm_intKeys hp (fun p hpm => (hk p hpm).imp fun _ h => h.1) hnd (fun x => ?_)
  rw [hL]
  constructor
  · rintro ⟨h1, h2⟩
    rw [(hD x h1).2, h2]
  · intro h
    obtain ⟨d, hd⟩ := has_mem h
    obtain ⟨y, hy1, hy2⟩ := hk _ hd
    simp only at hy1
    injection hy1 with _ hy1
    subst hy1
    exact ⟨hy2, by rw [← (hD x hy2).2]; exact h⟩
theorem enc_flat (L : List Int) : L.map encZ = L.flatMap (fun x => [Value.int .i64 x]) := by
  induction L with
  | nil => rfl
  | cons x l ih => rw [List.map_cons, List.flatMap_cons, ih]; rfl
/-- Keys, in what order ever, sorted are the rising list. -/
theorem keys_sorted {w : World} {b n : Nat} {D : DataW Value} {m : Int → Option Value} (hown : w.ownsMap Try.prog 3 heldE b n D) (hD : SaysV D m) (P : Int → Bool) (hP : ∀ x, wfV x → ((m x).isSome = true ↔ (1 ≤ x ∧ x ≤ 1023) ∧ P x = true)) {ss : List Int} (h : ss.Perm (intKeys D)) :
    ss.mergeSort (fun x y => decide (x ≤ y)) = riseL P ∧ ss.length = (riseL P).length := by
  have hp := keys_perm hown hD (riseL P) (riseL_nodup P) (fun x => by
    rw [mem_riseL]
    constructor
    · intro h
      have hw : wfV x := wfV_of (by omega) (by omega)
      exact ⟨hw, (hP x hw).2 h⟩
    · rintro ⟨h1, h2⟩
      exact (hP x h1).1 h2)
  have h1 := mergeSort_of_perm_i (h.trans hp.symm)
  rw [riseL_sorted] at h1
  exact ⟨h1, (h.trans hp.symm).length_eq⟩
end Go.Proofs.Ytdpohbaeopidmaa

/- The library's contracts that this proof uses, laid by the kit's own tool at this translation (plain words). -/
namespace Go.Proofs
open Go.Shelf
def Try.keysA_ren : Go.Shelf.Ren := ⟨fun | 7 => 77 | 10 => 101 | n => n, fun | 23 => 112 | 26 => 3 | 3 => 42 | 28 => 128 | 0 => 0 | 27 => 127 | 33 => 47 | 4 => 4 | n => n, fun | n => n⟩
theorem Try.keysA : Go.Proofs.SlLaysZI.n7 Try.prog Try.keysA_ren := {
  mixed := by kernel_rfl
  f7 := ⟨Try.f77.name, by decide, Try.func77.trans (congrArg some (by kernel_rfl))⟩
  f10 := ⟨Try.f101.name, by decide, Try.func101.trans (congrArg some (by kernel_rfl))⟩
  t0 := Try.underlying0
  a0 := Try.isAgg0
  z0 := Try.sizeOf0
  v0 := Try.zeroValue0
  t4 := Try.underlying4
  a4 := Try.isAgg4
  z4 := Try.sizeOf4
  v4 := Try.zeroValue4
  t23 := Try.underlying112
  a23 := Try.isAgg112
  z23 := Try.sizeOf112
  v23 := Try.zeroValue112
  t26 := Try.underlying3
  a26 := Try.isAgg3
  z26 := Try.sizeOf3
  v26 := Try.zeroValue3
  t27 := Try.underlying127
  a27 := Try.isAgg127
  z27 := Try.sizeOf127
  v27 := Try.zeroValue127
  t28 := Try.underlying128
  a28 := Try.isAgg128
  z28 := Try.sizeOf128
  v28 := Try.zeroValue128
  t33 := Try.underlying47
  a33 := Try.isAgg47
  z33 := Try.sizeOf47
  v33 := Try.zeroValue47 }
def Try.sortedA_ren : Go.Shelf.Ren := ⟨fun | 6 => 76 | 8 => 99 | 9 => 100 | 11 => 110 | 13 => 112 | 12 => 111 | 23 => 128 | 24 => 129 | 14 => 119 | 15 => 120 | 16 => 121 | 17 => 122 | 18 => 123 | 19 => 124 | 20 => 125 | 21 => 126 | 22 => 127 | 25 => 131 | 26 => 132 | 27 => 133 | 28 => 134 | 29 => 135 | 30 => 108 | 31 => 136 | n => n, fun | 26 => 3 | 28 => 128 | 24 => 49 | 0 => 0 | 3 => 3 | 37 => 86 | 48 => 166 | 50 => 169 | 4 => 4 | 40 => 177 | 39 => 176 | 45 => 115 | 5 => 5 | 9 => 9 | 51 => 185 | 55 => 189 | 57 => 191 | 58 => 192 | 33 => 47 | n => n, fun | n => n⟩
theorem Try.sortedA : Go.Proofs.SlLaysZI.n6 Try.prog Try.sortedA_ren := {
  mixed := by kernel_rfl
  f6 := ⟨Try.f76.name, by decide, Try.func76.trans (congrArg some (by kernel_rfl))⟩
  f8 := ⟨Try.f99.name, by decide, Try.func99.trans (congrArg some (by kernel_rfl))⟩
  f11 := ⟨Try.f110.name, by decide, Try.func110.trans (congrArg some (by kernel_rfl))⟩
  t0 := Try.underlying0
  a0 := Try.isAgg0
  z0 := Try.sizeOf0
  v0 := Try.zeroValue0
  t24 := Try.underlying49
  a24 := Try.isAgg49
  z24 := Try.sizeOf49
  v24 := Try.zeroValue49
  t26 := Try.underlying3
  a26 := Try.isAgg3
  z26 := Try.sizeOf3
  v26 := Try.zeroValue3
  t28 := Try.underlying128
  a28 := Try.isAgg128
  z28 := Try.sizeOf128
  v28 := Try.zeroValue128
  i26 := by kernel_rfl }
def Try.sortA_ren : Go.Shelf.Ren := ⟨fun | 5 => 100 | 8 => 112 | 7 => 111 | 19 => 128 | 20 => 129 | 10 => 119 | 11 => 120 | 12 => 121 | 13 => 122 | 14 => 123 | 15 => 124 | 16 => 125 | 17 => 126 | 18 => 127 | 30 => 131 | 31 => 132 | 32 => 133 | 33 => 134 | 34 => 135 | 35 => 108 | 40 => 136 | n => n, fun | 23 => 49 | 25 => 3 | 3 => 3 | 32 => 86 | 22 => 49 | 0 => 0 | 44 => 166 | 46 => 169 | 4 => 4 | 36 => 177 | 35 => 176 | 41 => 115 | 5 => 5 | 9 => 9 | 53 => 185 | 57 => 189 | 63 => 191 | 64 => 192 | n => n, fun | n => n⟩
theorem Try.sortA : Go.Proofs.SlLaysM.n5 Try.prog Try.sortA_ren := {
  mixed := by kernel_rfl
  f5 := ⟨Try.f100.name, by decide, Try.func100.trans (congrArg some (by kernel_rfl))⟩
  f7 := ⟨Try.f111.name, by decide, Try.func111.trans (congrArg some (by kernel_rfl))⟩
  f8 := Try.func112.trans (congrArg some (by kernel_rfl))
  f10 := ⟨Try.f119.name, by decide, Try.func119.trans (congrArg some (by kernel_rfl))⟩
  f11 := ⟨Try.f120.name, by decide, Try.func120.trans (congrArg some (by kernel_rfl))⟩
  f12 := ⟨Try.f121.name, by decide, Try.func121.trans (congrArg some (by kernel_rfl))⟩
  f13 := ⟨Try.f122.name, by decide, Try.func122.trans (congrArg some (by kernel_rfl))⟩
  f14 := ⟨Try.f123.name, by decide, Try.func123.trans (congrArg some (by kernel_rfl))⟩
  f15 := ⟨Try.f124.name, by decide, Try.func124.trans (congrArg some (by kernel_rfl))⟩
  f16 := ⟨Try.f125.name, by decide, Try.func125.trans (congrArg some (by kernel_rfl))⟩
  f17 := ⟨Try.f126.name, by decide, Try.func126.trans (congrArg some (by kernel_rfl))⟩
  f18 := ⟨Try.f127.name, by decide, Try.func127.trans (congrArg some (by kernel_rfl))⟩
  f19 := Try.func128.trans (congrArg some (by kernel_rfl))
  f20 := Try.func129.trans (congrArg some (by kernel_rfl))
  f30 := ⟨Try.f131.name, by decide, Try.func131.trans (congrArg some (by kernel_rfl))⟩
  f31 := Try.func132.trans (congrArg some (by kernel_rfl))
  f32 := Try.func133.trans (congrArg some (by kernel_rfl))
  f33 := ⟨Try.f134.name, by decide, Try.func134.trans (congrArg some (by kernel_rfl))⟩
  f34 := ⟨Try.f135.name, by decide, Try.func135.trans (congrArg some (by kernel_rfl))⟩
  f35 := ⟨Try.f108.name, by decide, Try.func108.trans (congrArg some (by kernel_rfl))⟩
  f40 := ⟨Try.f136.name, by decide, Try.func136.trans (congrArg some (by kernel_rfl))⟩
  t0 := Try.underlying0
  a0 := Try.isAgg0
  z0 := Try.sizeOf0
  v0 := Try.zeroValue0
  t3 := Try.underlying3
  a3 := Try.isAgg3
  z3 := Try.sizeOf3
  v3 := Try.zeroValue3
  t4 := Try.underlying4
  a4 := Try.isAgg4
  z4 := Try.sizeOf4
  v4 := Try.zeroValue4
  t5 := Try.underlying5
  a5 := Try.isAgg5
  z5 := Try.sizeOf5
  v5 := Try.zeroValue5
  t9 := Try.underlying9
  a9 := Try.isAgg9
  z9 := Try.sizeOf9
  v9 := Try.zeroValue9
  t22 := Try.underlying49
  a22 := Try.isAgg49
  z22 := Try.sizeOf49
  v22 := Try.zeroValue49
  t23 := Try.underlying49
  a23 := Try.isAgg49
  z23 := Try.sizeOf49
  v23 := Try.zeroValue49
  t25 := Try.underlying3
  a25 := Try.isAgg3
  z25 := Try.sizeOf3
  v25 := Try.zeroValue3
  t32 := Try.underlying86
  a32 := Try.isAgg86
  z32 := Try.sizeOf86
  v32 := Try.zeroValue86
  t35 := Try.underlying176
  a35 := Try.isAgg176
  z35 := Try.sizeOf176
  v35 := Try.zeroValue176
  t36 := Try.underlying177
  a36 := Try.isAgg177
  z36 := Try.sizeOf177
  v36 := Try.zeroValue177
  t41 := Try.underlying115
  a41 := Try.isAgg115
  z41 := Try.sizeOf115
  v41 := Try.zeroValue115
  t44 := Try.underlying166
  a44 := Try.isAgg166
  z44 := Try.sizeOf166
  v44 := Try.zeroValue166
  t46 := Try.underlying169
  a46 := Try.isAgg169
  z46 := Try.sizeOf169
  v46 := Try.zeroValue169
  t53 := Try.underlying185
  a53 := Try.isAgg185
  z53 := Try.sizeOf185
  v53 := Try.zeroValue185
  t57 := Try.underlying189
  a57 := Try.isAgg189
  z57 := Try.sizeOf189
  v57 := Try.zeroValue189
  t63 := Try.underlying191
  a63 := Try.isAgg191
  z63 := Try.sizeOf191
  v63 := Try.zeroValue191
  t64 := Try.underlying192
  a64 := Try.isAgg192
  z64 := Try.sizeOf192
  v64 := Try.zeroValue192 }
end Go.Proofs

/- owners: Chunks. -/
namespace Go.Proofs.Ytdpohbaeopidmaa
set_option linter.unusedVariables false
set_option linter.unusedSimpArgs false
open Go.RowKit Go.Maps Go.Shelf Go.Sort

theorem chunks_nil (w : World) : Calls Try.prog 28 #[.pointer none] w fun e w' => e = .returned (.slice none 0 0) ∧ Ext w w' := by
  go_enter Try.func28, Try.ntmps28
  go_wp2
  go_ret
  exact ⟨rfl, by (repeat (first | with_reducible exact Below.refl _ _ | with_reducible assumption | with_reducible apply Below.drew | with_reducible apply below_drewN | (with_reducible refine below_set ?_ ?_; focus ((try simp); (try omega); done)) | (with_reducible refine below_new ?_ ?_; focus ((try simp); (try omega); done))))⟩
theorem sortsA (m : Nat) : AnyZI.SortsIn Try.prog Try.sortedA_ren Fence.wide m :=
  ⟨fun blk off cap ss W hH hblk hsz => callsIn_wide.2 (AnyM.slices_Sort_int Try.sortA blk off cap ss W hH hblk hsz),
   fun p cap W => callsIn_wide.2 (AnyM.slices_Sort_int_none Try.sortA p cap W)⟩
set_option maxHeartbeats 1000000 in
theorem chunks_raw (b nn pb : Nat) (D0 : DataW Value) (w : World) (hown : w.ownsMap Try.prog 3 heldE b nn D0) (hmax : Maps.size D0 ≤ maxLen) (hbytes : Maps.size D0 * 8 ≤ 140737488355328)
    (q0 : w.cell? ⟨pb, 0, none⟩ = some (.map (some b))) :
    Calls Try.prog 28 #[.pointer (some ⟨pb, 0, none⟩)] w fun e w' => ∃ (v : Value) (ss : List Int), e = .returned v ∧ ss.Perm (intKeys D0) ∧
      w'.ownsRow w.heap.size 3 1 v ss.length ((ss.mergeSort (fun x y => decide (x ≤ y))).map encZ) ∧ Below w.heap.size w w' := by
  refine (callsIn_wide (n := 6)).1 ?_
  have hbl := hown.lt
  have hseq : SeqGives Fence.wide 2 Try.prog 101 #[.pointer (some ⟨w.heap.size, 0, none⟩)] encZ (fun ss => ss.Perm (intKeys D0)) (Maps.size D0) (w.alloc (.cells #[.map (some b)] 112)) :=
    AnyZI.keys_gives (ρ := Try.keysA_ren) { Try.keysA with } Fence.wide _ trivial rfl (by omega) w.heap.size b nn D0 _ (by simp) (by simp) (by
      obtain ⟨es, clock, hb, Ft, hs, hD⟩ := hown
      exact ⟨es, clock, (Below.heap_alloc _ _ b hbl).trans hb, Ft, hs, hD⟩)
  have cK : ∀ mb W, CallsIn Fence.wide 5 Try.prog 77 #[.map mb] W fun e w' => e = .returned (.func (.func 101) #[] #[.pointer (some ⟨W.heap.size, 0, none⟩)]) ∧ w' = W.alloc (.cells #[.map mb] 112) := fun mb W => AnyZI.keys_in Try.keysA Fence.wide 5 trivial rfl mb W
  have cS := AnyZI.sorted_in Try.sortedA Fence.wide 5 trivial trivial trivial trivial rfl (by omega) (sortsA _) (enters_of Try.func100 (by kernel_rfl) rfl) 101 #[.pointer (some ⟨w.heap.size, 0, none⟩)] trivial (enters_of Try.func101 (by kernel_rfl) rfl) _ _ hmax hbytes _ hseq
  change CallsIn _ _ Try.prog 76 _ _ _ at cS
  have hfK : Fence.wide.fn 77 := trivial
  have hfS : Fence.wide.fn 76 := trivial
  refine callsIn_of_wp Try.func28 rfl trivial ?_ rfl
  simp only [Try.ntmps28, List.size_toArray, List.length_cons, List.length_nil, Nat.reduceAdd, Nat.reduceSub, Array.replicate_succ, Array.replicate_zero, List.push_toArray, List.append_toArray, List.nil_append, List.cons_append]
  gi_wp2_with (first
    | (gi_at_call 77; refine (cK _ _).mono ?_; rintro e w' ⟨rfl, rfl⟩)
    | (gi_at_call 76; refine cS.mono ?_; rintro e w' ⟨v, ss, rfl, hS, hrow, hnil, hb⟩))
  go_ret
  exact ⟨v, ss, rfl, hS, ownsRow_base_a hrow (by simp), ((Below.refl _ w).alloc (Nat.le_refl _) _).trans (hb.mono (by simp))⟩
/-- The chunks that have one. -/
def chunksB (N : Int → List OwD) : Int → Bool := fun c => decide (N c ≠ [])
theorem chunks_any {H : Nat} {A : World} {R : List Thing} (pb : Nat) (F : List Nat) (N W : Int → List OwD) (w : World) (hO : OwnT H A (tOB pb F N W :: R) w) :
    Calls Try.prog 28 #[.pointer (some ⟨pb, 0, none⟩)] w fun e w' => ∃ v, e = .returned v ∧ OwnT H A (tRow 3 1 v (riseL (chunksB N)).length ((riseL (chunksB N)).flatMap fun x => [Value.int .i64 x]) :: tOB pb F N W :: R) w' ∧ Ext w w' := by
  obtain ⟨nb, wb, F1, F2, m, m', hO1, ok1, ok2, hs1, hs2⟩ := hO.openB
  have hS0 : ChS w nb F1 m N := hO1.all.2.1
  obtain ⟨D, hown, hD⟩ := hS0.vm
  have hsz := hown.size_le
  refine (chunks_raw nb 1023 pb D w hown (by unfold maxLen; omega) (by omega) (hO1.b0.cell 0)).mono ?_
  rintro e w' ⟨v, ss, rfl, hperm, hrow, hb⟩
  obtain ⟨h1, h2⟩ := keys_sorted hown hD (chunksB N) (fun x hx => by
    obtain ⟨β, hr, _⟩ := hS0.rows
    unfold chunksB
    constructor
    · intro h
      refine ⟨hS0.keys x hx h, decide_eq_true fun e => ?_⟩
      rw [ok1 x e] at h
      cases h
    · rintro ⟨_, h⟩
      obtain ⟨v, e, _⟩ := hr x (of_decide_eq_true h)
      rw [e]
      rfl) hperm
  rw [h1, h2, enc_flat] at hrow
  exact ⟨v, rfl, hO.newRow hb hrow, hb⟩
end Go.Proofs.Ytdpohbaeopidmaa
