/- The library's contracts that this proof uses, laid by the kit's own tool at this translation (plain words). -/
import Derived.Shelf.SlIterI.Nil
import Derived.Shelf.SortM.Plain
import Derived.Shelf.SortM.SortNone
import Derived.Ground.GgzProg
import Derived.Ground.SlgmProg
import Derived.Test.YtdpohbaeopidmaaProg
import Derived.Test.YtdpohbaeopidmaaKChunkExact09
import Derived.Shelf.AbstractIn
import Derived.TacticsInMore
import Derived.Lib.SlKeysI
namespace Go.Proofs
open Go.Shelf
def Try.keysD_ren : Go.Shelf.Ren := ⟨fun | 7 => 86 | 10 => 107 | n => n, fun | 23 => 133 | 26 => 3 | 3 => 9 | 28 => 128 | 0 => 0 | 27 => 127 | 33 => 47 | 4 => 4 | n => n, fun | n => n⟩
theorem Try.keysD : Go.Proofs.SlLaysZI.n7 Try.prog Try.keysD_ren := {
  mixed := by kernel_rfl
  f7 := ⟨Try.f86.name, by decide, Try.func86.trans (congrArg some (by kernel_rfl))⟩
  f10 := ⟨Try.f107.name, by decide, Try.func107.trans (congrArg some (by kernel_rfl))⟩
  t0 := Try.underlying0
  a0 := Try.isAgg0
  z0 := Try.sizeOf0
  v0 := Try.zeroValue0
  t4 := Try.underlying4
  a4 := Try.isAgg4
  z4 := Try.sizeOf4
  v4 := Try.zeroValue4
  t23 := Try.underlying133
  a23 := Try.isAgg133
  z23 := Try.sizeOf133
  v23 := Try.zeroValue133
  t26 := Try.underlying3
  a26 := Try.isAgg3
  z26 := Try.sizeOf3
  v26 := Try.zeroValue3
  t27 := Try.underlying127
  a27 := Try.isAgg127
  z27 := Try.sizeOf127
  v27 := Try.zeroValue127
  t28 := Try.underlying128
  a28 := Try.isAgg128
  z28 := Try.sizeOf128
  v28 := Try.zeroValue128
  t33 := Try.underlying47
  a33 := Try.isAgg47
  z33 := Try.sizeOf47
  v33 := Try.zeroValue47 }
def Try.sortedD_ren : Go.Shelf.Ren := ⟨fun | 6 => 76 | 8 => 99 | 9 => 100 | 11 => 110 | 13 => 112 | 12 => 111 | 23 => 128 | 24 => 129 | 14 => 119 | 15 => 120 | 16 => 121 | 17 => 122 | 18 => 123 | 19 => 124 | 20 => 125 | 21 => 126 | 22 => 127 | 25 => 131 | 26 => 132 | 27 => 133 | 28 => 134 | 29 => 135 | 30 => 108 | 31 => 136 | n => n, fun | 26 => 3 | 28 => 128 | 24 => 49 | 0 => 0 | 3 => 3 | 37 => 86 | 48 => 166 | 50 => 169 | 4 => 4 | 40 => 177 | 39 => 176 | 45 => 115 | 5 => 5 | 9 => 9 | 51 => 185 | 55 => 189 | 57 => 191 | 58 => 192 | 33 => 47 | n => n, fun | n => n⟩
theorem Try.sortedD : Go.Proofs.SlLaysZI.n6 Try.prog Try.sortedD_ren := {
  mixed := by kernel_rfl
  f6 := ⟨Try.f76.name, by decide, Try.func76.trans (congrArg some (by kernel_rfl))⟩
  f8 := ⟨Try.f99.name, by decide, Try.func99.trans (congrArg some (by kernel_rfl))⟩
  f11 := ⟨Try.f110.name, by decide, Try.func110.trans (congrArg some (by kernel_rfl))⟩
  t0 := Try.underlying0
  a0 := Try.isAgg0
  z0 := Try.sizeOf0
  v0 := Try.zeroValue0
  t24 := Try.underlying49
  a24 := Try.isAgg49
  z24 := Try.sizeOf49
  v24 := Try.zeroValue49
  t26 := Try.underlying3
  a26 := Try.isAgg3
  z26 := Try.sizeOf3
  v26 := Try.zeroValue3
  t28 := Try.underlying128
  a28 := Try.isAgg128
  z28 := Try.sizeOf128
  v28 := Try.zeroValue128
  i26 := by kernel_rfl }
def Try.sortD_ren : Go.Shelf.Ren := ⟨fun | 5 => 100 | 8 => 112 | 7 => 111 | 19 => 128 | 20 => 129 | 10 => 119 | 11 => 120 | 12 => 121 | 13 => 122 | 14 => 123 | 15 => 124 | 16 => 125 | 17 => 126 | 18 => 127 | 30 => 131 | 31 => 132 | 32 => 133 | 33 => 134 | 34 => 135 | 35 => 108 | 40 => 136 | n => n, fun | 23 => 49 | 25 => 3 | 3 => 3 | 32 => 86 | 22 => 49 | 0 => 0 | 44 => 166 | 46 => 169 | 4 => 4 | 36 => 177 | 35 => 176 | 41 => 115 | 5 => 5 | 9 => 9 | 53 => 185 | 57 => 189 | 63 => 191 | 64 => 192 | n => n, fun | n => n⟩
theorem Try.sortD : Go.Proofs.SlLaysM.n5 Try.prog Try.sortD_ren := {
  mixed := by kernel_rfl
  f5 := ⟨Try.f100.name, by decide, Try.func100.trans (congrArg some (by kernel_rfl))⟩
  f7 := ⟨Try.f111.name, by decide, Try.func111.trans (congrArg some (by kernel_rfl))⟩
  f8 := Try.func112.trans (congrArg some (by kernel_rfl))
  f10 := ⟨Try.f119.name, by decide, Try.func119.trans (congrArg some (by kernel_rfl))⟩
  f11 := ⟨Try.f120.name, by decide, Try.func120.trans (congrArg some (by kernel_rfl))⟩
  f12 := ⟨Try.f121.name, by decide, Try.func121.trans (congrArg some (by kernel_rfl))⟩
  f13 := ⟨Try.f122.name, by decide, Try.func122.trans (congrArg some (by kernel_rfl))⟩
  f14 := ⟨Try.f123.name, by decide, Try.func123.trans (congrArg some (by kernel_rfl))⟩
  f15 := ⟨Try.f124.name, by decide, Try.func124.trans (congrArg some (by kernel_rfl))⟩
  f16 := ⟨Try.f125.name, by decide, Try.func125.trans (congrArg some (by kernel_rfl))⟩
  f17 := ⟨Try.f126.name, by decide, Try.func126.trans (congrArg some (by kernel_rfl))⟩
  f18 := ⟨Try.f127.name, by decide, Try.func127.trans (congrArg some (by kernel_rfl))⟩
  f19 := Try.func128.trans (congrArg some (by kernel_rfl))
  f20 := Try.func129.trans (congrArg some (by kernel_rfl))
  f30 := ⟨Try.f131.name, by decide, Try.func131.trans (congrArg some (by kernel_rfl))⟩
  f31 := Try.func132.trans (congrArg some (by kernel_rfl))
  f32 := Try.func133.trans (congrArg some (by kernel_rfl))
  f33 := ⟨Try.f134.name, by decide, Try.func134.trans (congrArg some (by kernel_rfl))⟩
  f34 := ⟨Try.f135.name, by decide, Try.func135.trans (congrArg some (by kernel_rfl))⟩
  f35 := ⟨Try.f108.name, by decide, Try.func108.trans (congrArg some (by kernel_rfl))⟩
  f40 := ⟨Try.f136.name, by decide, Try.func136.trans (congrArg some (by kernel_rfl))⟩
  t0 := Try.underlying0
  a0 := Try.isAgg0
  z0 := Try.sizeOf0
  v0 := Try.zeroValue0
  t3 := Try.underlying3
  a3 := Try.isAgg3
  z3 := Try.sizeOf3
  v3 := Try.zeroValue3
  t4 := Try.underlying4
  a4 := Try.isAgg4
  z4 := Try.sizeOf4
  v4 := Try.zeroValue4
  t5 := Try.underlying5
  a5 := Try.isAgg5
  z5 := Try.sizeOf5
  v5 := Try.zeroValue5
  t9 := Try.underlying9
  a9 := Try.isAgg9
  z9 := Try.sizeOf9
  v9 := Try.zeroValue9
  t22 := Try.underlying49
  a22 := Try.isAgg49
  z22 := Try.sizeOf49
  v22 := Try.zeroValue49
  t23 := Try.underlying49
  a23 := Try.isAgg49
  z23 := Try.sizeOf49
  v23 := Try.zeroValue49
  t25 := Try.underlying3
  a25 := Try.isAgg3
  z25 := Try.sizeOf3
  v25 := Try.zeroValue3
  t32 := Try.underlying86
  a32 := Try.isAgg86
  z32 := Try.sizeOf86
  v32 := Try.zeroValue86
  t35 := Try.underlying176
  a35 := Try.isAgg176
  z35 := Try.sizeOf176
  v35 := Try.zeroValue176
  t36 := Try.underlying177
  a36 := Try.isAgg177
  z36 := Try.sizeOf177
  v36 := Try.zeroValue177
  t41 := Try.underlying115
  a41 := Try.isAgg115
  z41 := Try.sizeOf115
  v41 := Try.zeroValue115
  t44 := Try.underlying166
  a44 := Try.isAgg166
  z44 := Try.sizeOf166
  v44 := Try.zeroValue166
  t46 := Try.underlying169
  a46 := Try.isAgg169
  z46 := Try.sizeOf169
  v46 := Try.zeroValue169
  t53 := Try.underlying185
  a53 := Try.isAgg185
  z53 := Try.sizeOf185
  v53 := Try.zeroValue185
  t57 := Try.underlying189
  a57 := Try.isAgg189
  z57 := Try.sizeOf189
  v57 := Try.zeroValue189
  t63 := Try.underlying191
  a63 := Try.isAgg191
  z63 := Try.sizeOf191
  v63 := Try.zeroValue191
  t64 := Try.underlying192
  a64 := Try.isAgg192
  z64 := Try.sizeOf192
  v64 := Try.zeroValue192 }
end Go.Proofs

/- disc: Loose. -/
namespace Go.Proofs.Ytdpohbaeopidmaa
set_option linter.unusedVariables false
set_option linter.unusedSimpArgs false
open Go.RowKit Go.Maps Go.Shelf Go.Sort

/-- The numbers below n of which P holds, rising. -/
def riseN (n : Nat) (P : Int → Bool) : List Int := ((List.range n).map fun (i : Nat) => (i : Int)).filter P
theorem mem_riseN {n : Nat} {P : Int → Bool} {x : Int} : x ∈ riseN n P ↔ (0 ≤ x ∧ x < n) ∧ P x = true := by
  unfold riseN
  rw [List.mem_filter, List.mem_map]
  refine and_congr_left fun _ => ⟨?_, fun h => ⟨x.toNat, by rw [List.mem_range]; omega, by omega⟩⟩
  rintro ⟨i, hi, rfl⟩
  rw [List.mem_range] at hi
  omega
theorem riseN_rising (n : Nat) (P : Int → Bool) : (riseN n P).Pairwise (fun a b => a < b) :=
  List.Pairwise.filter _ (by rw [List.pairwise_map]; exact List.pairwise_lt_range.imp (fun {a b} h => by omega))
theorem riseN_nodup (n : Nat) (P : Int → Bool) : (riseN n P).Nodup := (riseN_rising n P).imp (fun {a b} h e => by omega)
theorem riseN_sorted (n : Nat) (P : Int → Bool) : (riseN n P).mergeSort leI = riseN n P :=
  List.mergeSort_of_pairwise ((riseN_rising n P).imp (fun {a b} h => by simp [leI]; omega))
theorem riseN_le (n : Nat) (P : Int → Bool) : (riseN n P).length ≤ n := by
  have := List.length_filter_le P ((List.range n).map fun (i : Nat) => (i : Int))
  simpa [riseN] using this
theorem riseN_congr {n : Nat} {P Q : Int → Bool} (h : ∀ i : Nat, i < n → P i = Q i) : riseN n P = riseN n Q := by
  unfold riseN
  refine List.filter_congr fun x hx => ?_
  obtain ⟨i, hi, rfl⟩ := List.mem_map.1 hx
  exact h i (by simpa using hi)
/-- What is loose. -/
def looL (n : Nat) (L : Int → Option Sec) : List Int := riseN n fun i => (L i).isSome
theorem keys_permN {w : World} {b n : Nat} {D : DataW Value} {m : Int → Option Value} (hown : w.ownsMap Try.prog 3 heldE b n D) (hD : SaysV D m) (L : List Int) (hnd : L.Nodup) (hL : ∀ x, x ∈ L ↔ wfV x ∧ (m x).isSome = true) : L.Perm (intKeys D) := by
  obtain ⟨es, clock, hb, F, hs, rfl⟩ := id hown
  obtain ⟨es', he, hp⟩ := hown.tidy law_intV
  injection he with he
  have hk : ∀ p ∈ es', ∃ x, p.1 = .int .i64 x ∧ wfV x := by
    intro p hpm
    rw [← he] at hpm
    obtain ⟨x, hx, rfl⟩ := List.mem_map.1 (mem_sorted.1 hpm)
    obtain ⟨y, hy⟩ := F.reads x hx
    obtain ⟨a, _, h2, h3⟩ := Maps.keyOf_int_inv Try.underlying3 (Go.WideElems.rd_key hy)
    exact ⟨a, by rw [Go.WideElems.rg_of hy]; exact h2, h3⟩
  rw [he] at hD ⊢
  refine perm_intKeys hp (fun p hpm => (hk p hpm).imp fun _ h => h.1) hnd (fun x => ?_)
  rw [hL]
  constructor
  · rintro ⟨h1, h2⟩
    rw [(hD x h1).2, h2]
  · intro h
    obtain ⟨d, hd⟩ := has_mem h
    obtain ⟨y, hy1, hy2⟩ := hk _ hd
    simp only at hy1
    injection hy1 with _ hy1
    subst hy1
    exact ⟨hy2, by rw [← (hD x hy2).2]; exact h⟩
theorem enc_flatN (L : List Int) : L.map encZ = L.flatMap (fun x => [Value.int .i64 x]) := by
  induction L with
  | nil => rfl
  | cons x l ih => rw [List.map_cons, List.flatMap_cons, ih]; rfl
theorem sortsD (m : Nat) : AnyZI.SortsIn Try.prog Try.sortedD_ren Fence.wide m :=
  ⟨fun blk off cap ss W hH hblk hsz => callsIn_wide.2 (AnyM.slices_Sort_int Try.sortD blk off cap ss W hH hblk hsz),
   fun p cap W => callsIn_wide.2 (AnyM.slices_Sort_int_none Try.sortD p cap W)⟩
set_option maxHeartbeats 1000000 in
theorem loose_raw (b nn pb : Nat) (D0 : DataW Value) (w : World) (hown : w.ownsMap Try.prog 3 heldE b nn D0) (hmax : Maps.size D0 ≤ maxLen) (hbytes : Maps.size D0 * 8 ≤ 140737488355328)
    (q0 : w.cell? ⟨pb, 2, none⟩ = some (.map (some b))) :
    Calls Try.prog 39 #[.pointer (some ⟨pb, 0, none⟩)] w fun e w' => ∃ (v : Value) (ss : List Int), e = .returned v ∧ ss.Perm (intKeys D0) ∧
      w'.ownsRow w.heap.size 3 1 v ss.length ((ss.mergeSort (fun x y => decide (x ≤ y))).map encZ) ∧ Below w.heap.size w w' := by
  refine (callsIn_wide (n := 6)).1 ?_
  have hbl := hown.lt
  have hseq : SeqGives Fence.wide 2 Try.prog 107 #[.pointer (some ⟨w.heap.size, 0, none⟩)] encZ (fun ss => ss.Perm (intKeys D0)) (Maps.size D0) (w.alloc (.cells #[.map (some b)] 133)) :=
    AnyZI.keys_gives (ρ := Try.keysD_ren) { Try.keysD with } Fence.wide _ trivial rfl (by omega) w.heap.size b nn D0 _ (by simp) (by simp) (by
      obtain ⟨es, clock, hb, Ft, hs, hD⟩ := hown
      exact ⟨es, clock, (Below.heap_alloc _ _ b hbl).trans hb, Ft, hs, hD⟩)
  have cK : ∀ mb W, CallsIn Fence.wide 5 Try.prog 86 #[.map mb] W fun e w' => e = .returned (.func (.func 107) #[] #[.pointer (some ⟨W.heap.size, 0, none⟩)]) ∧ w' = W.alloc (.cells #[.map mb] 133) := fun mb W => AnyZI.keys_in Try.keysD Fence.wide 5 trivial rfl mb W
  have cS := AnyZI.sorted_in Try.sortedD Fence.wide 5 trivial trivial trivial trivial rfl (by omega) (sortsD _) (enters_of Try.func100 (by kernel_rfl) rfl) 107 #[.pointer (some ⟨w.heap.size, 0, none⟩)] trivial (enters_of Try.func107 (by kernel_rfl) rfl) _ _ hmax hbytes _ hseq
  change CallsIn _ _ Try.prog 76 _ _ _ at cS
  have hfK : Fence.wide.fn 86 := trivial
  have hfS : Fence.wide.fn 76 := trivial
  refine callsIn_of_wp Try.func39 rfl trivial ?_ rfl
  simp only [Try.ntmps39, List.size_toArray, List.length_cons, List.length_nil, Nat.reduceAdd, Nat.reduceSub, Array.replicate_succ, Array.replicate_zero, List.push_toArray, List.append_toArray, List.nil_append, List.cons_append]
  gi_wp2_with (first
    | (gi_at_call 86; refine (cK _ _).mono ?_; rintro e w' ⟨rfl, rfl⟩)
    | (gi_at_call 76; refine cS.mono ?_; rintro e w' ⟨v, ss, rfl, hS, hrow, hnil, hb⟩))
  go_ret
  exact ⟨v, ss, rfl, hS, ownsRow_base_a hrow (by simp), ((Below.refl _ w).alloc (Nat.le_refl _) _).trans (hb.mono (by simp))⟩
abbrev encI : Int → List Value := fun x => [.int .i64 x]
/-- The loose ones, in a row of one's own. -/
theorem dloose_any {p mb n cap bm : Nat} {B : Option Addr} {S : List Sec} {L : Int → Option Sec} (w : World) (h : DiscR p mb B n cap bm S L w) :
    Calls Try.prog 39 #[.pointer (some ⟨p, 0, none⟩)] w fun e w' => ∃ B' cap', e = .returned (.slice B' (looL n L).length cap') ∧ (looL n L).length ≤ cap' ∧ cap' ≤ maxLen ∧ w'.ownsRow w.heap.size 3 1 (.slice B' (looL n L).length cap') (looL n L).length ((looL n L).flatMap encI) ∧ Row w' B' 1 encI (looL n L) ∧ Ext w w' := by
  obtain ⟨D, hown, hD⟩ := h.map
  have hsz := hown.size_le
  have hn := h.ok.le
  refine (loose_raw bm 16384 p D w hown (by unfold maxLen; omega) (by omega) (h.blk.cell 2)).mono ?_
  rintro e w' ⟨v, ss, rfl, hperm, hrow, hb⟩
  have hp := keys_permN hown hD (looL n L) (riseN_nodup _ _) (fun x => by
    unfold looL
    rw [mem_riseN, looV_is]
    constructor
    · rintro ⟨h1, h2⟩
      exact ⟨wfV_of (by omega) (by omega), h2⟩
    · rintro ⟨_, h2⟩
      obtain ⟨s, hs⟩ := Option.isSome_iff_exists.1 h2
      exact ⟨(h.ok.rng x s hs).1, h2⟩)
  have h1 : ss.mergeSort (fun x y => decide (x ≤ y)) = looL n L := by
    have h1 := mergeSort_of_perm_i (hperm.trans hp.symm)
    rw [show (looL n L).mergeSort leI = looL n L from riseN_sorted _ _] at h1
    exact h1
  have h2 : ss.length = (looL n L).length := (hperm.trans hp.symm).length_eq
  rw [h1, h2, enc_flatN] at hrow
  obtain ⟨B', cap', rfl, hc, hm, _, hR⟩ := ownsRow_Row (k := 1) (enc := encI) (fun _ => rfl) Nat.one_pos hrow
  exact ⟨B', cap', rfl, hc, hm, hrow, hR, hb⟩
end Go.Proofs.Ytdpohbaeopidmaa
