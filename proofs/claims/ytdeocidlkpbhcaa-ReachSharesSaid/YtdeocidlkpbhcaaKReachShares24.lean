/- The library's contracts that this proof uses, laid by the kit's own tool at this translation (plain words). -/
import Derived.Shelf.SlIterI.Nil
import Derived.Shelf.SortM.Plain
import Derived.Shelf.SortM.SortNone
import Derived.Ground.GgzProg
import Derived.Ground.SlgmProg
import Derived.Test.YtdeocidlkpbhcaaProg
import Derived.Test.YtdeocidlkpbhcaaKReachShares06
import Derived.Test.YtdeocidlkpbhcaaKReachShares09
import Derived.Test.YtdeocidlkpbhcaaKReachShares07
import Derived.Shelf.AbstractIn
import Derived.TacticsInMore
import Derived.Lib.SlKeysI
import Derived.Test.YtdeocidlkpbhcaaKReachShares23
namespace Go.Proofs
open Go.Shelf
def Try.keysA_ren : Go.Shelf.Ren := ⟨fun | 7 => 20 | 10 => 34 | n => n, fun | 23 => 68 | 26 => 3 | 3 => 3 | 28 => 75 | 0 => 0 | 27 => 74 | 33 => 94 | 4 => 4 | n => n, fun | n => n⟩
theorem Try.keysA : Go.Proofs.SlLaysZI.n7 Try.prog Try.keysA_ren := {
  mixed := by kernel_rfl
  f7 := ⟨Try.f20.name, by decide, Try.func20.trans (congrArg some (by kernel_rfl))⟩
  f10 := ⟨Try.f34.name, by decide, Try.func34.trans (congrArg some (by kernel_rfl))⟩
  t0 := Try.underlying0
  a0 := Try.isAgg0
  z0 := Try.sizeOf0
  v0 := Try.zeroValue0
  t4 := Try.underlying4
  a4 := Try.isAgg4
  z4 := Try.sizeOf4
  v4 := Try.zeroValue4
  t23 := Try.underlying68
  a23 := Try.isAgg68
  z23 := Try.sizeOf68
  v23 := Try.zeroValue68
  t26 := Try.underlying3
  a26 := Try.isAgg3
  z26 := Try.sizeOf3
  v26 := Try.zeroValue3
  t27 := Try.underlying74
  a27 := Try.isAgg74
  z27 := Try.sizeOf74
  v27 := Try.zeroValue74
  t28 := Try.underlying75
  a28 := Try.isAgg75
  z28 := Try.sizeOf75
  v28 := Try.zeroValue75
  t33 := Try.underlying94
  a33 := Try.isAgg94
  z33 := Try.sizeOf94
  v33 := Try.zeroValue94 }
def Try.sortedA_ren : Go.Shelf.Ren := ⟨fun | 6 => 19 | 8 => 32 | 9 => 33 | 11 => 46 | 13 => 48 | 12 => 47 | 23 => 63 | 24 => 64 | 14 => 54 | 15 => 55 | 16 => 56 | 17 => 57 | 18 => 58 | 19 => 59 | 20 => 60 | 21 => 61 | 22 => 62 | 25 => 69 | 26 => 70 | 27 => 71 | 28 => 72 | 29 => 73 | 30 => 74 | 31 => 76 | n => n, fun | 26 => 3 | 28 => 75 | 24 => 22 | 0 => 0 | 3 => 3 | 37 => 28 | 48 => 127 | 50 => 32 | 4 => 4 | 40 => 120 | 39 => 119 | 45 => 83 | 5 => 5 | 9 => 9 | 51 => 132 | 55 => 136 | 57 => 139 | 58 => 140 | 33 => 94 | n => n, fun | n => n⟩
theorem Try.sortedA : Go.Proofs.SlLaysZI.n6 Try.prog Try.sortedA_ren := {
  mixed := by kernel_rfl
  f6 := ⟨Try.f19.name, by decide, Try.func19.trans (congrArg some (by kernel_rfl))⟩
  f8 := ⟨Try.f32.name, by decide, Try.func32.trans (congrArg some (by kernel_rfl))⟩
  f11 := ⟨Try.f46.name, by decide, Try.func46.trans (congrArg some (by kernel_rfl))⟩
  t0 := Try.underlying0
  a0 := Try.isAgg0
  z0 := Try.sizeOf0
  v0 := Try.zeroValue0
  t24 := Try.underlying22
  a24 := Try.isAgg22
  z24 := Try.sizeOf22
  v24 := Try.zeroValue22
  t26 := Try.underlying3
  a26 := Try.isAgg3
  z26 := Try.sizeOf3
  v26 := Try.zeroValue3
  t28 := Try.underlying75
  a28 := Try.isAgg75
  z28 := Try.sizeOf75
  v28 := Try.zeroValue75
  i26 := by kernel_rfl }
def Try.sortA_ren : Go.Shelf.Ren := ⟨fun | 5 => 33 | 8 => 48 | 7 => 47 | 19 => 63 | 20 => 64 | 10 => 54 | 11 => 55 | 12 => 56 | 13 => 57 | 14 => 58 | 15 => 59 | 16 => 60 | 17 => 61 | 18 => 62 | 30 => 69 | 31 => 70 | 32 => 71 | 33 => 72 | 34 => 73 | 35 => 74 | 40 => 76 | n => n, fun | 23 => 22 | 25 => 3 | 3 => 3 | 32 => 28 | 22 => 22 | 0 => 0 | 44 => 127 | 46 => 32 | 4 => 4 | 36 => 120 | 35 => 119 | 41 => 83 | 5 => 5 | 9 => 9 | 53 => 132 | 57 => 136 | 63 => 139 | 64 => 140 | n => n, fun | n => n⟩
theorem Try.sortA : Go.Proofs.SlLaysM.n5 Try.prog Try.sortA_ren := {
  mixed := by kernel_rfl
  f5 := ⟨Try.f33.name, by decide, Try.func33.trans (congrArg some (by kernel_rfl))⟩
  f7 := ⟨Try.f47.name, by decide, Try.func47.trans (congrArg some (by kernel_rfl))⟩
  f8 := Try.func48.trans (congrArg some (by kernel_rfl))
  f10 := ⟨Try.f54.name, by decide, Try.func54.trans (congrArg some (by kernel_rfl))⟩
  f11 := ⟨Try.f55.name, by decide, Try.func55.trans (congrArg some (by kernel_rfl))⟩
  f12 := ⟨Try.f56.name, by decide, Try.func56.trans (congrArg some (by kernel_rfl))⟩
  f13 := ⟨Try.f57.name, by decide, Try.func57.trans (congrArg some (by kernel_rfl))⟩
  f14 := ⟨Try.f58.name, by decide, Try.func58.trans (congrArg some (by kernel_rfl))⟩
  f15 := ⟨Try.f59.name, by decide, Try.func59.trans (congrArg some (by kernel_rfl))⟩
  f16 := ⟨Try.f60.name, by decide, Try.func60.trans (congrArg some (by kernel_rfl))⟩
  f17 := ⟨Try.f61.name, by decide, Try.func61.trans (congrArg some (by kernel_rfl))⟩
  f18 := ⟨Try.f62.name, by decide, Try.func62.trans (congrArg some (by kernel_rfl))⟩
  f19 := Try.func63.trans (congrArg some (by kernel_rfl))
  f20 := Try.func64.trans (congrArg some (by kernel_rfl))
  f30 := ⟨Try.f69.name, by decide, Try.func69.trans (congrArg some (by kernel_rfl))⟩
  f31 := Try.func70.trans (congrArg some (by kernel_rfl))
  f32 := Try.func71.trans (congrArg some (by kernel_rfl))
  f33 := ⟨Try.f72.name, by decide, Try.func72.trans (congrArg some (by kernel_rfl))⟩
  f34 := ⟨Try.f73.name, by decide, Try.func73.trans (congrArg some (by kernel_rfl))⟩
  f35 := ⟨Try.f74.name, by decide, Try.func74.trans (congrArg some (by kernel_rfl))⟩
  f40 := ⟨Try.f76.name, by decide, Try.func76.trans (congrArg some (by kernel_rfl))⟩
  t0 := Try.underlying0
  a0 := Try.isAgg0
  z0 := Try.sizeOf0
  v0 := Try.zeroValue0
  t3 := Try.underlying3
  a3 := Try.isAgg3
  z3 := Try.sizeOf3
  v3 := Try.zeroValue3
  t4 := Try.underlying4
  a4 := Try.isAgg4
  z4 := Try.sizeOf4
  v4 := Try.zeroValue4
  t5 := Try.underlying5
  a5 := Try.isAgg5
  z5 := Try.sizeOf5
  v5 := Try.zeroValue5
  t9 := Try.underlying9
  a9 := Try.isAgg9
  z9 := Try.sizeOf9
  v9 := Try.zeroValue9
  t22 := Try.underlying22
  a22 := Try.isAgg22
  z22 := Try.sizeOf22
  v22 := Try.zeroValue22
  t23 := Try.underlying22
  a23 := Try.isAgg22
  z23 := Try.sizeOf22
  v23 := Try.zeroValue22
  t25 := Try.underlying3
  a25 := Try.isAgg3
  z25 := Try.sizeOf3
  v25 := Try.zeroValue3
  t32 := Try.underlying28
  a32 := Try.isAgg28
  z32 := Try.sizeOf28
  v32 := Try.zeroValue28
  t35 := Try.underlying119
  a35 := Try.isAgg119
  z35 := Try.sizeOf119
  v35 := Try.zeroValue119
  t36 := Try.underlying120
  a36 := Try.isAgg120
  z36 := Try.sizeOf120
  v36 := Try.zeroValue120
  t41 := Try.underlying83
  a41 := Try.isAgg83
  z41 := Try.sizeOf83
  v41 := Try.zeroValue83
  t44 := Try.underlying127
  a44 := Try.isAgg127
  z44 := Try.sizeOf127
  v44 := Try.zeroValue127
  t46 := Try.underlying32
  a46 := Try.isAgg32
  z46 := Try.sizeOf32
  v46 := Try.zeroValue32
  t53 := Try.underlying132
  a53 := Try.isAgg132
  z53 := Try.sizeOf132
  v53 := Try.zeroValue132
  t57 := Try.underlying136
  a57 := Try.isAgg136
  z57 := Try.sizeOf136
  v57 := Try.zeroValue136
  t63 := Try.underlying139
  a63 := Try.isAgg139
  z63 := Try.sizeOf139
  v63 := Try.zeroValue139
  t64 := Try.underlying140
  a64 := Try.isAgg140
  z64 := Try.sizeOf140
  v64 := Try.zeroValue140 }
end Go.Proofs

/- Maps: their keys, rising. -/
namespace Go.Proofs.Ytdeocidlkpbhcaa
set_option linter.unusedVariables false
set_option linter.unusedSimpArgs false
open Go.RowKit Go.Maps Go.Shelf Go.Sort

/-- The numbers 1 .. 1023 of which P holds, rising. -/
def riseL (P : Int → Bool) : List Int := ((List.range 1023).map fun (i : Nat) => ((i + 1 : Nat) : Int)).filter P
theorem Z84 {P : Int → Bool} {x : Int} : x ∈ riseL P ↔ (1 ≤ x ∧ x ≤ 1023) ∧ P x = true := by
  unfold riseL
  rw [List.mem_filter, List.mem_map]
  refine and_congr_left fun _ => ⟨?_, fun h => ⟨(x - 1).toNat, by rw [List.mem_range]; omega, by omega⟩⟩
  rintro ⟨i, hi, rfl⟩
  rw [List.mem_range] at hi
  omega
theorem Z3m (P : Int → Bool) : (riseL P).Pairwise (fun a b => a < b) :=
  List.Pairwise.filter _ (by rw [List.pairwise_map]; exact List.pairwise_lt_range.imp (fun {a b} h => by omega))
theorem Z5z (P : Int → Bool) : (riseL P).Nodup := (Z3m P).imp (fun {a b} h e => by omega)
theorem Z5c (P : Int → Bool) : (riseL P).mergeSort leI = riseL P :=
  List.mergeSort_of_pairwise ((Z3m P).imp (fun {a b} h => by simp [leI]; omega))
theorem Z89 {w : World} {b n : Nat} {D : DataW Value} {m : Int → Option Value} (hown : w.ownsMap Try.prog 3 heldE b n D) (hD : SaysV D m) (L : List Int) (hnd : L.Nodup) (hL : ∀ x, x ∈ L ↔ wfV x ∧ (m x).isSome = true) : L.Perm (intKeys D) := by
  obtain ⟨es, clock, hb, F, hs, rfl⟩ := id hown
  obtain ⟨es', he, hp⟩ := hown.tidy Z3v
  injection he with he
  have hk : ∀ p ∈ es', ∃ x, p.1 = .int .i64 x ∧ wfV x := by
    intro p hpm
    rw [← he] at hpm
    obtain ⟨x, hx, rfl⟩ := List.mem_map.1 (mem_sorted.1 hpm)
    obtain ⟨y, hy⟩ := F.reads x hx
    obtain ⟨a, _, h2, h3⟩ := Maps.keyOf_int_inv Try.underlying3 (Go.WideElems.rd_key hy)
    exact ⟨a, by rw [Go.WideElems.rg_of hy]; exact h2, h3⟩
  rw [he] at hD ⊢
  refine perm_intKeys hp (fun p hpm => (hk p hpm).imp fun _ h => h.1) hnd (fun x => ?_)
  rw [hL]
  constructor
  · rintro ⟨h1, h2⟩
    rw [(hD x h1).2, h2]
  · intro h
    obtain ⟨d, hd⟩ := has_mem h
    obtain ⟨y, hy1, hy2⟩ := hk _ hd
    simp only at hy1
    injection hy1 with _ hy1
    subst hy1
    exact ⟨hy2, by rw [← (hD x hy2).2]; exact h⟩
/-- Keys, in what order ever, sorted are the rising list. -/
theorem Z65 {w : World} {b n : Nat} {D : DataW Value} {m : Int → Option Value} (hown : w.ownsMap Try.prog 3 heldE b n D) (hD : SaysV D m) (P : Int → Bool) (hP : ∀ x, wfV x → ((m x).isSome = true ↔ (1 ≤ x ∧ x ≤ 1023) ∧ P x = true)) {ss : List Int} (h : ss.Perm (intKeys D)) :
    ss.mergeSort (fun x y => decide (x ≤ y)) = riseL P ∧ ss.length = (riseL P).length := by
  have hp := Z89 hown hD (riseL P) (Z5z P) (fun x => by
    rw [Z84]
    constructor
    · intro h
      have hw : wfV x := Z59 (by omega) (by omega)
      exact ⟨hw, (hP x hw).2 h⟩
    · rintro ⟨h1, h2⟩
      exact (hP x h1).1 h2)
  have h1 := mergeSort_of_perm_i (h.trans hp.symm)
  rw [Z5c] at h1
  exact ⟨h1, (h.trans hp.symm).length_eq⟩
end Go.Proofs.Ytdeocidlkpbhcaa

/- Reach: a map's keys, rising. -/
namespace Go.Proofs.Ytdeocidlkpbhcaa
set_option linter.unusedVariables false
set_option linter.unusedSimpArgs false
open Go.RowKit Go.Maps Go.Shelf Go.Sort
theorem sortsR (m : Nat) : AnyZI.SortsIn Try.prog Try.sortedA_ren Fence.wide m :=
  ⟨fun blk off cap ss W hH hblk hsz => callsIn_wide.2 (AnyM.slices_Sort_int Try.sortA blk off cap ss W hH hblk hsz),
   fun p cap W => callsIn_wide.2 (AnyM.slices_Sort_int_none Try.sortA p cap W)⟩
abbrev fnK (ib : Nat) : Value := .func (.func 34) #[] #[.pointer (some ⟨ib, 0, none⟩)]
theorem keysR {H : Nat} {A : World} {L : List Thing} (lb : Nat) (w : World) (O : OwnT H A L w) : Calls Try.prog 20 #[.map (some lb)] w fun e w' => ∃ ib, e = .returned (fnK ib) ∧ OwnT H A (tBlk ib 68 #[.map (some lb)] :: L) w' := by
  refine (callsIn_wide (n := 6)).1 ?_
  have cK : CallsIn Fence.wide 6 Try.prog 20 #[.map (some lb)] w fun e w' => e = .returned (fnK w.heap.size) ∧ w' = w.alloc (.cells #[.map (some lb)] 68) := AnyZI.keys_in Try.keysA Fence.wide 6 trivial rfl (some lb) w
  refine cK.mono ?_
  rintro e w' ⟨rfl, rfl⟩
  exact ⟨w.heap.size, rfl, O.new _ _⟩
theorem Z7x (sn : Nat → Bool) : riseL (fun x => sn x.toNat) = (keysN sn).map (fun (i : Nat) => (i : Int)) := by
  unfold riseL keysN
  rw [List.filter_map, List.filter_map, List.map_map]
  rfl
theorem enc_nat (l : List Nat) : (l.map (fun (i : Nat) => (i : Int))).map encZ = l.flatMap encN := by
  induction l with
  | nil => rfl
  | cons x l ih => rw [List.map_cons, List.map_cons, ih]; rfl
theorem sortedR {H : Nat} {A : World} {L : List Thing} (lb ib n : Nat) (f : Nat → Nat) (sn : Nat → Bool) (w : World) (O : OwnT H A (tBlk ib 68 #[.map (some lb)] :: L) w) (hv : VM w lb n (mapL f)) (hn : n ≤ 1000000) (hf : ∀ q, f q ≠ 0 ↔ sn q = true) (hs : ∀ q, sn q = true → 1 ≤ q ∧ q ≤ 1023) :
    Calls Try.prog 19 #[fnK ib] w fun e w' => ∃ B' c', e = .returned (.slice B' (keysN sn).length c') ∧ OwnT H A (tNs (.slice B' (keysN sn).length c') (keysN sn) :: tBlk ib 68 #[.map (some lb)] :: L) w' := by
  obtain ⟨D, hown, hD⟩ := hv
  have hsz := hown.size_le
  have hseq : SeqGives Fence.wide 2 Try.prog 34 #[.pointer (some ⟨ib, 0, none⟩)] encZ (fun ss => ss.Perm (intKeys D)) (Maps.size D) w :=
    AnyZI.keys_gives (ρ := Try.keysA_ren) { Try.keysA with } Fence.wide _ trivial rfl (by omega) ib lb n D w (O.b0.lt) (O.b0.cell 0) hown
  have cS := AnyZI.sorted_in Try.sortedA Fence.wide 5 trivial trivial trivial trivial rfl (by omega) (sortsR _) (enters_of Try.func33 (by kernel_rfl) rfl) 34 #[.pointer (some ⟨ib, 0, none⟩)] trivial (enters_of Try.func34 (by kernel_rfl) rfl) _ _ (show Maps.size D ≤ maxLen by unfold maxLen; omega) (by omega) w hseq
  change CallsIn _ _ Try.prog 19 _ _ _ at cS
  refine (callsIn_wide (n := 5)).1 ?_
  refine cS.mono ?_
  rintro e w' ⟨v, ss, rfl, hperm, hrow, -, hb⟩
  obtain ⟨h1, h2⟩ := Z65 hown hD (fun x => sn x.toNat) (fun x hx => by
    unfold mapL
    constructor
    · intro h
      by_cases e : 1 ≤ x ∧ f x.toNat ≠ 0
      · have h2 := (hf x.toNat).1 e.2
        have := hs x.toNat h2
        exact ⟨⟨e.1, by omega⟩, h2⟩
      · rw [if_neg e] at h; cases h
    · rintro ⟨⟨h1, _⟩, h2⟩
      rw [if_pos ⟨h1, (hf x.toNat).2 h2⟩]
      rfl) hperm
  rw [h1, h2, Z7x, enc_nat, List.length_map] at hrow
  obtain ⟨B', c', rfl⟩ := Z26 hrow
  exact ⟨B', c', rfl, O.newRow hb hrow⟩
end Go.Proofs.Ytdeocidlkpbhcaa
