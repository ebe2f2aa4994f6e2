/- The library's contracts that this proof uses, laid by the kit's own tool at this translation (plain words). -/
import Derived.Shelf.SlIterI.Nil
import Derived.Shelf.SortM.Plain
import Derived.Shelf.SortM.SortNone
import Derived.Ground.GgzProg
import Derived.Ground.SlgmProg
import Derived.Test.YtakkhglbdljfiaaGreatDoorProg
import Derived.Test.YtakkhglbdljfiaaGreatDoorKStoreShadows09
import Derived.Shelf.AbstractIn
import Derived.TacticsInMore
import Derived.Lib.SlKeysI
namespace Go.Proofs
open Go.Shelf
def Tryz.keysD_ren : Go.Shelf.Ren := ⟨fun | 7 => 73 | 10 => 104 | n => n, fun | 23 => 112 | 26 => 3 | 3 => 9 | 28 => 126 | 0 => 0 | 27 => 125 | 33 => 95 | 4 => 4 | n => n, fun | n => n⟩
theorem Tryz.keysD : Go.Proofs.SlLaysZI.n7 Tryz.prog Tryz.keysD_ren := {
  mixed := by kernel_rfl
  f7 := ⟨Tryz.f73.name, by decide, Tryz.func73.trans (congrArg some (by kernel_rfl))⟩
  f10 := ⟨Tryz.f104.name, by decide, Tryz.func104.trans (congrArg some (by kernel_rfl))⟩
  t0 := Tryz.underlying0
  a0 := Tryz.isAgg0
  z0 := Tryz.sizeOf0
  v0 := Tryz.zeroValue0
  t4 := Tryz.underlying4
  a4 := Tryz.isAgg4
  z4 := Tryz.sizeOf4
  v4 := Tryz.zeroValue4
  t23 := Tryz.underlying112
  a23 := Tryz.isAgg112
  z23 := Tryz.sizeOf112
  v23 := Tryz.zeroValue112
  t26 := Tryz.underlying3
  a26 := Tryz.isAgg3
  z26 := Tryz.sizeOf3
  v26 := Tryz.zeroValue3
  t27 := Tryz.underlying125
  a27 := Tryz.isAgg125
  z27 := Tryz.sizeOf125
  v27 := Tryz.zeroValue125
  t28 := Tryz.underlying126
  a28 := Tryz.isAgg126
  z28 := Tryz.sizeOf126
  v28 := Tryz.zeroValue126
  t33 := Tryz.underlying95
  a33 := Tryz.isAgg95
  z33 := Tryz.sizeOf95
  v33 := Tryz.zeroValue95 }
def Tryz.sortedD_ren : Go.Shelf.Ren := ⟨fun | 6 => 72 | 8 => 102 | 9 => 103 | 11 => 120 | 13 => 122 | 12 => 121 | 23 => 142 | 24 => 143 | 14 => 133 | 15 => 134 | 16 => 135 | 17 => 136 | 18 => 137 | 19 => 138 | 20 => 139 | 21 => 140 | 22 => 141 | 25 => 148 | 26 => 149 | 27 => 150 | 28 => 151 | 29 => 152 | 30 => 153 | 31 => 157 | n => n, fun | 26 => 3 | 28 => 126 | 24 => 40 | 0 => 0 | 3 => 3 | 37 => 26 | 48 => 158 | 50 => 37 | 4 => 4 | 40 => 188 | 39 => 187 | 45 => 192 | 5 => 5 | 9 => 9 | 51 => 200 | 55 => 204 | 57 => 207 | 58 => 49 | 33 => 95 | n => n, fun | n => n⟩
theorem Tryz.sortedD : Go.Proofs.SlLaysZI.n6 Tryz.prog Tryz.sortedD_ren := {
  mixed := by kernel_rfl
  f6 := ⟨Tryz.f72.name, by decide, Tryz.func72.trans (congrArg some (by kernel_rfl))⟩
  f8 := ⟨Tryz.f102.name, by decide, Tryz.func102.trans (congrArg some (by kernel_rfl))⟩
  f11 := ⟨Tryz.f120.name, by decide, Tryz.func120.trans (congrArg some (by kernel_rfl))⟩
  t0 := Tryz.underlying0
  a0 := Tryz.isAgg0
  z0 := Tryz.sizeOf0
  v0 := Tryz.zeroValue0
  t24 := Tryz.underlying40
  a24 := Tryz.isAgg40
  z24 := Tryz.sizeOf40
  v24 := Tryz.zeroValue40
  t26 := Tryz.underlying3
  a26 := Tryz.isAgg3
  z26 := Tryz.sizeOf3
  v26 := Tryz.zeroValue3
  t28 := Tryz.underlying126
  a28 := Tryz.isAgg126
  z28 := Tryz.sizeOf126
  v28 := Tryz.zeroValue126
  i26 := by kernel_rfl }
def Tryz.sortD_ren : Go.Shelf.Ren := ⟨fun | 5 => 103 | 8 => 122 | 7 => 121 | 19 => 142 | 20 => 143 | 10 => 133 | 11 => 134 | 12 => 135 | 13 => 136 | 14 => 137 | 15 => 138 | 16 => 139 | 17 => 140 | 18 => 141 | 30 => 148 | 31 => 149 | 32 => 150 | 33 => 151 | 34 => 152 | 35 => 153 | 40 => 157 | n => n, fun | 23 => 40 | 25 => 3 | 3 => 3 | 32 => 26 | 22 => 40 | 0 => 0 | 44 => 158 | 46 => 37 | 4 => 4 | 36 => 188 | 35 => 187 | 41 => 192 | 5 => 5 | 9 => 9 | 53 => 200 | 57 => 204 | 63 => 207 | 64 => 49 | n => n, fun | n => n⟩
theorem Tryz.sortD : Go.Proofs.SlLaysM.n5 Tryz.prog Tryz.sortD_ren := {
  mixed := by kernel_rfl
  f5 := ⟨Tryz.f103.name, by decide, Tryz.func103.trans (congrArg some (by kernel_rfl))⟩
  f7 := ⟨Tryz.f121.name, by decide, Tryz.func121.trans (congrArg some (by kernel_rfl))⟩
  f8 := Tryz.func122.trans (congrArg some (by kernel_rfl))
  f10 := ⟨Tryz.f133.name, by decide, Tryz.func133.trans (congrArg some (by kernel_rfl))⟩
  f11 := ⟨Tryz.f134.name, by decide, Tryz.func134.trans (congrArg some (by kernel_rfl))⟩
  f12 := ⟨Tryz.f135.name, by decide, Tryz.func135.trans (congrArg some (by kernel_rfl))⟩
  f13 := ⟨Tryz.f136.name, by decide, Tryz.func136.trans (congrArg some (by kernel_rfl))⟩
  f14 := ⟨Tryz.f137.name, by decide, Tryz.func137.trans (congrArg some (by kernel_rfl))⟩
  f15 := ⟨Tryz.f138.name, by decide, Tryz.func138.trans (congrArg some (by kernel_rfl))⟩
  f16 := ⟨Tryz.f139.name, by decide, Tryz.func139.trans (congrArg some (by kernel_rfl))⟩
  f17 := ⟨Tryz.f140.name, by decide, Tryz.func140.trans (congrArg some (by kernel_rfl))⟩
  f18 := ⟨Tryz.f141.name, by decide, Tryz.func141.trans (congrArg some (by kernel_rfl))⟩
  f19 := Tryz.func142.trans (congrArg some (by kernel_rfl))
  f20 := Tryz.func143.trans (congrArg some (by kernel_rfl))
  f30 := ⟨Tryz.f148.name, by decide, Tryz.func148.trans (congrArg some (by kernel_rfl))⟩
  f31 := Tryz.func149.trans (congrArg some (by kernel_rfl))
  f32 := Tryz.func150.trans (congrArg some (by kernel_rfl))
  f33 := ⟨Tryz.f151.name, by decide, Tryz.func151.trans (congrArg some (by kernel_rfl))⟩
  f34 := ⟨Tryz.f152.name, by decide, Tryz.func152.trans (congrArg some (by kernel_rfl))⟩
  f35 := ⟨Tryz.f153.name, by decide, Tryz.func153.trans (congrArg some (by kernel_rfl))⟩
  f40 := ⟨Tryz.f157.name, by decide, Tryz.func157.trans (congrArg some (by kernel_rfl))⟩
  t0 := Tryz.underlying0
  a0 := Tryz.isAgg0
  z0 := Tryz.sizeOf0
  v0 := Tryz.zeroValue0
  t3 := Tryz.underlying3
  a3 := Tryz.isAgg3
  z3 := Tryz.sizeOf3
  v3 := Tryz.zeroValue3
  t4 := Tryz.underlying4
  a4 := Tryz.isAgg4
  z4 := Tryz.sizeOf4
  v4 := Tryz.zeroValue4
  t5 := Tryz.underlying5
  a5 := Tryz.isAgg5
  z5 := Tryz.sizeOf5
  v5 := Tryz.zeroValue5
  t9 := Tryz.underlying9
  a9 := Tryz.isAgg9
  z9 := Tryz.sizeOf9
  v9 := Tryz.zeroValue9
  t22 := Tryz.underlying40
  a22 := Tryz.isAgg40
  z22 := Tryz.sizeOf40
  v22 := Tryz.zeroValue40
  t23 := Tryz.underlying40
  a23 := Tryz.isAgg40
  z23 := Tryz.sizeOf40
  v23 := Tryz.zeroValue40
  t25 := Tryz.underlying3
  a25 := Tryz.isAgg3
  z25 := Tryz.sizeOf3
  v25 := Tryz.zeroValue3
  t32 := Tryz.underlying26
  a32 := Tryz.isAgg26
  z32 := Tryz.sizeOf26
  v32 := Tryz.zeroValue26
  t35 := Tryz.underlying187
  a35 := Tryz.isAgg187
  z35 := Tryz.sizeOf187
  v35 := Tryz.zeroValue187
  t36 := Tryz.underlying188
  a36 := Tryz.isAgg188
  z36 := Tryz.sizeOf188
  v36 := Tryz.zeroValue188
  t41 := Tryz.underlying192
  a41 := Tryz.isAgg192
  z41 := Tryz.sizeOf192
  v41 := Tryz.zeroValue192
  t44 := Tryz.underlying158
  a44 := Tryz.isAgg158
  z44 := Tryz.sizeOf158
  v44 := Tryz.zeroValue158
  t46 := Tryz.underlying37
  a46 := Tryz.isAgg37
  z46 := Tryz.sizeOf37
  v46 := Tryz.zeroValue37
  t53 := Tryz.underlying200
  a53 := Tryz.isAgg200
  z53 := Tryz.sizeOf200
  v53 := Tryz.zeroValue200
  t57 := Tryz.underlying204
  a57 := Tryz.isAgg204
  z57 := Tryz.sizeOf204
  v57 := Tryz.zeroValue204
  t63 := Tryz.underlying207
  a63 := Tryz.isAgg207
  z63 := Tryz.sizeOf207
  v63 := Tryz.zeroValue207
  t64 := Tryz.underlying49
  a64 := Tryz.isAgg49
  z64 := Tryz.sizeOf49
  v64 := Tryz.zeroValue49 }
end Go.Proofs

/- disc: Loose. -/
namespace Go.Proofs.YtakkhglbdljfiaaGreatDoor
set_option linter.unusedVariables false
set_option linter.unusedSimpArgs false
open Go.RowKit Go.Maps Go.Shelf Go.Sort

/-- The numbers below n of which P holds, rising. -/
def riseN (n : Nat) (P : Int → Bool) : List Int := ((List.range n).map fun (i : Nat) => (i : Int)).filter P
theorem Z2c {n : Nat} {P : Int → Bool} {x : Int} : x ∈ riseN n P ↔ (0 ≤ x ∧ x < n) ∧ P x = true := by
  unfold riseN
  rw [List.mem_filter, List.mem_map]
  refine and_congr_left fun _ => ⟨?_, fun h => ⟨x.toNat, by rw [List.mem_range]; omega, by omega⟩⟩
  rintro ⟨i, hi, rfl⟩
  rw [List.mem_range] at hi
  omega
theorem Z3u (n : Nat) (P : Int → Bool) : (riseN n P).Pairwise (fun a b => a < b) :=
  List.Pairwise.filter _ (by rw [List.pairwise_map]; exact List.pairwise_lt_range.imp (fun {a b} h => by omega))
theorem Z1p (n : Nat) (P : Int → Bool) : (riseN n P).Nodup := (Z3u n P).imp (fun {a b} h e => by omega)
theorem Z3t (n : Nat) (P : Int → Bool) : (riseN n P).mergeSort leI = riseN n P :=
  List.mergeSort_of_pairwise ((Z3u n P).imp (fun {a b} h => by simp [leI]; omega))
theorem Z5v (n : Nat) (P : Int → Bool) : (riseN n P).length ≤ n := by
  have := List.length_filter_le P ((List.range n).map fun (i : Nat) => (i : Int))
  simpa [riseN] using this
theorem Z7a {n : Nat} {P Q : Int → Bool} (h : ∀ i : Nat, i < n → P i = Q i) : riseN n P = riseN n Q := by
  unfold riseN
  refine List.filter_congr fun x hx => ?_
  obtain ⟨i, hi, rfl⟩ := List.mem_map.1 hx
  exact h i (by simpa using hi)
/-- What is loose. -/
def looL (n : Nat) (L : Int → Option Sec) : List Int := riseN n fun i => (L i).isSome
theorem Z3m {w : World} {b n : Nat} {D : DataW Value} {m : Int → Option Value} (hown : w.ownsMap Tryz.prog 3 heldE b n D) (hD : SaysV D m) (L : List Int) (hnd : L.Nodup) (hL : ∀ x, x ∈ L ↔ wfV x ∧ (m x).isSome = true) : L.Perm (intKeys D) := by
  obtain ⟨es, clock, hb, F, hs, rfl⟩ := id hown
  obtain ⟨es', he, hp⟩ := hown.tidy Z1f
  injection he with he
  have hk : ∀ p ∈ es', ∃ x, p.1 = .int .i64 x ∧ wfV x := by
    intro p hpm
    rw [← he] at hpm
    obtain ⟨x, hx, rfl⟩ := List.mem_map.1 (mem_sorted.1 hpm)
    obtain ⟨y, hy⟩ := F.reads x hx
    obtain ⟨a, _, h2, h3⟩ := Maps.keyOf_int_inv Tryz.underlying3 (Go.WideElems.rd_key hy)
    exact ⟨a, by rw [Go.WideElems.rg_of hy]; exact h2, h3⟩
  rw [he] at hD ⊢
  refine perm_intKeys hp (fun p hpm => (hk p hpm).imp fun _ h => h.1) hnd (fun x => ?_)
  rw [hL]
  constructor
  · rintro ⟨h1, h2⟩
    rw [(hD x h1).2, h2]
  · intro h
    obtain ⟨d, hd⟩ := has_mem h
    obtain ⟨y, hy1, hy2⟩ := hk _ hd
    simp only at hy1
    injection hy1 with _ hy1
    subst hy1
    exact ⟨hy2, by rw [← (hD x hy2).2]; exact h⟩
theorem enc_flatN (L : List Int) : L.map encZ = L.flatMap (fun x => [Value.int .i64 x]) := by
  induction L with
  | nil => rfl
  | cons x l ih => rw [List.map_cons, List.flatMap_cons, ih]; rfl
theorem sortsD (m : Nat) : AnyZI.SortsIn Tryz.prog Tryz.sortedD_ren Fence.wide m :=
  ⟨fun blk off cap ss W hH hblk hsz => callsIn_wide.2 (AnyM.slices_Sort_int Tryz.sortD blk off cap ss W hH hblk hsz),
   fun p cap W => callsIn_wide.2 (AnyM.slices_Sort_int_none Tryz.sortD p cap W)⟩
set_option maxHeartbeats 1000000 in
theorem loose_raw (b nn pb : Nat) (D0 : DataW Value) (w : World) (hown : w.ownsMap Tryz.prog 3 heldE b nn D0) (hmax : Maps.size D0 ≤ maxLen) (hbytes : Maps.size D0 * 8 ≤ 140737488355328)
    (q0 : w.cell? ⟨pb, 2, none⟩ = some (.map (some b))) :
    Calls Tryz.prog 41 #[.pointer (some ⟨pb, 0, none⟩)] w fun e w' => ∃ (v : Value) (ss : List Int), e = .returned v ∧ ss.Perm (intKeys D0) ∧
      w'.ownsRow w.heap.size 3 1 v ss.length ((ss.mergeSort (fun x y => decide (x ≤ y))).map encZ) ∧ Below w.heap.size w w' := by
  refine (callsIn_wide (n := 6)).1 ?_
  have hbl := hown.lt
  have hseq : SeqGives Fence.wide 2 Tryz.prog 104 #[.pointer (some ⟨w.heap.size, 0, none⟩)] encZ (fun ss => ss.Perm (intKeys D0)) (Maps.size D0) (w.alloc (.cells #[.map (some b)] 112)) :=
    AnyZI.keys_gives (ρ := Tryz.keysD_ren) { Tryz.keysD with } Fence.wide _ trivial rfl (by omega) w.heap.size b nn D0 _ (by simp) (by simp) (by
      obtain ⟨es, clock, hb, Ft, hs, hD⟩ := hown
      exact ⟨es, clock, (Below.heap_alloc _ _ b hbl).trans hb, Ft, hs, hD⟩)
  have cK : ∀ mb W, CallsIn Fence.wide 5 Tryz.prog 73 #[.map mb] W fun e w' => e = .returned (.func (.func 104) #[] #[.pointer (some ⟨W.heap.size, 0, none⟩)]) ∧ w' = W.alloc (.cells #[.map mb] 112) := fun mb W => AnyZI.keys_in Tryz.keysD Fence.wide 5 trivial rfl mb W
  have cS := AnyZI.sorted_in Tryz.sortedD Fence.wide 5 trivial trivial trivial trivial rfl (by omega) (sortsD _) (enters_of Tryz.func103 (by kernel_rfl) rfl) 104 #[.pointer (some ⟨w.heap.size, 0, none⟩)] trivial (enters_of Tryz.func104 (by kernel_rfl) rfl) _ _ hmax hbytes _ hseq
  change CallsIn _ _ Tryz.prog 72 _ _ _ at cS
  have hfK : Fence.wide.fn 73 := trivial
  have hfS : Fence.wide.fn 72 := trivial
  refine callsIn_of_wp Tryz.func41 rfl trivial ?_ rfl
  simp only [Tryz.ntmps41, List.size_toArray, List.length_cons, List.length_nil, Nat.reduceAdd, Nat.reduceSub, Array.replicate_succ, Array.replicate_zero, List.push_toArray, List.append_toArray, List.nil_append, List.cons_append]
  gi_wp2_with (first
    | (gi_at_call 73; refine (cK _ _).mono ?_; rintro e w' ⟨rfl, rfl⟩)
    | (gi_at_call 72; refine cS.mono ?_; rintro e w' ⟨v, ss, rfl, hS, hrow, hnil, hb⟩))
  go_ret
  exact ⟨v, ss, rfl, hS, ownsRow_base_a hrow (by simp), ((Below.refl _ w).alloc (Nat.le_refl _) _).trans (hb.mono (by simp))⟩
abbrev encI : Int → List Value := fun x => [.int .i64 x]
/-- The loose ones, in a row of one's own. -/
theorem dloose_any {p mb n cap bm : Nat} {B : Option Addr} {S : List Sec} {L : Int → Option Sec} (w : World) (h : DiscR p mb B n cap bm S L w) :
    Calls Tryz.prog 41 #[.pointer (some ⟨p, 0, none⟩)] w fun e w' => ∃ B' cap', e = .returned (.slice B' (looL n L).length cap') ∧ (looL n L).length ≤ cap' ∧ cap' ≤ maxLen ∧ w'.ownsRow w.heap.size 3 1 (.slice B' (looL n L).length cap') (looL n L).length ((looL n L).flatMap encI) ∧ Row w' B' 1 encI (looL n L) ∧ Ext w w' := by
  obtain ⟨D, hown, hD⟩ := h.map
  have hsz := hown.size_le
  have hn := h.ok.le
  refine (loose_raw bm 16384 p D w hown (by unfold maxLen; omega) (by omega) (h.blk.cell 2)).mono ?_
  rintro e w' ⟨v, ss, rfl, hperm, hrow, hb⟩
  have hp := Z3m hown hD (looL n L) (Z1p _ _) (fun x => by
    unfold looL
    rw [Z2c, Z7l]
    constructor
    · rintro ⟨h1, h2⟩
      exact ⟨Z3r (by omega) (by omega), h2⟩
    · rintro ⟨_, h2⟩
      obtain ⟨s, hs⟩ := Option.isSome_iff_exists.1 h2
      exact ⟨(h.ok.rng x s hs).1, h2⟩)
  have h1 : ss.mergeSort (fun x y => decide (x ≤ y)) = looL n L := by
    have h1 := mergeSort_of_perm_i (hperm.trans hp.symm)
    rw [show (looL n L).mergeSort leI = looL n L from Z3t _ _] at h1
    exact h1
  have h2 : ss.length = (looL n L).length := (hperm.trans hp.symm).length_eq
  rw [h1, h2, enc_flatN] at hrow
  obtain ⟨B', cap', rfl, hc, hm, _, hR⟩ := Z2t (k := 1) (enc := encI) (fun _ => rfl) Nat.one_pos hrow
  exact ⟨B', cap', rfl, hc, hm, hrow, hR, hb⟩
end Go.Proofs.YtakkhglbdljfiaaGreatDoor
