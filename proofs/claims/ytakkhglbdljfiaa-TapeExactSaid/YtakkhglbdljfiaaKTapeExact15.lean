/- The library's contracts that this proof uses, laid by the kit's own tool at this translation (plain words). -/
import Derived.Shelf.SlIterI.Nil
import Derived.Shelf.SortM.Plain
import Derived.Shelf.SortM.SortNone
import Derived.Ground.GgzProg
import Derived.Ground.SlgmProg
import Derived.Test.YtakkhglbdljfiaaProg
import Derived.Test.YtakkhglbdljfiaaKTapeExact12
import Derived.Shelf.AbstractIn
import Derived.TacticsInMore
import Derived.Lib.SlKeysI
import Derived.Test.YtakkhglbdljfiaaKTapeExact14
namespace Go.Proofs
open Go.Shelf
def Try.keysD_ren : Go.Shelf.Ren := ⟨fun | 7 => 28 | 10 => 46 | n => n, fun | 23 => 49 | 26 => 3 | 3 => 9 | 28 => 62 | 0 => 0 | 27 => 61 | 33 => 82 | 4 => 4 | n => n, fun | n => n⟩
theorem Try.keysD : Go.Proofs.SlLaysZI.n7 Try.prog Try.keysD_ren := {
  mixed := by kernel_rfl
  f7 := ⟨Try.f28.name, by decide, Try.func28.trans (congrArg some (by kernel_rfl))⟩
  f10 := ⟨Try.f46.name, by decide, Try.func46.trans (congrArg some (by kernel_rfl))⟩
  t0 := Try.underlying0
  a0 := Try.isAgg0
  z0 := Try.sizeOf0
  v0 := Try.zeroValue0
  t4 := Try.underlying4
  a4 := Try.isAgg4
  z4 := Try.sizeOf4
  v4 := Try.zeroValue4
  t23 := Try.underlying49
  a23 := Try.isAgg49
  z23 := Try.sizeOf49
  v23 := Try.zeroValue49
  t26 := Try.underlying3
  a26 := Try.isAgg3
  z26 := Try.sizeOf3
  v26 := Try.zeroValue3
  t27 := Try.underlying61
  a27 := Try.isAgg61
  z27 := Try.sizeOf61
  v27 := Try.zeroValue61
  t28 := Try.underlying62
  a28 := Try.isAgg62
  z28 := Try.sizeOf62
  v28 := Try.zeroValue62
  t33 := Try.underlying82
  a33 := Try.isAgg82
  z33 := Try.sizeOf82
  v33 := Try.zeroValue82 }
def Try.sortedD_ren : Go.Shelf.Ren := ⟨fun | 6 => 27 | 8 => 44 | 9 => 45 | 11 => 62 | 13 => 64 | 12 => 63 | 23 => 82 | 24 => 83 | 14 => 73 | 15 => 74 | 16 => 75 | 17 => 76 | 18 => 77 | 19 => 78 | 20 => 79 | 21 => 80 | 22 => 81 | 25 => 86 | 26 => 87 | 27 => 88 | 28 => 89 | 29 => 90 | 30 => 91 | 31 => 92 | n => n, fun | 26 => 3 | 28 => 62 | 24 => 37 | 0 => 0 | 3 => 3 | 37 => 90 | 48 => 87 | 50 => 57 | 4 => 4 | 40 => 113 | 39 => 112 | 45 => 117 | 5 => 5 | 9 => 9 | 51 => 123 | 55 => 127 | 57 => 129 | 58 => 130 | 33 => 82 | n => n, fun | n => n⟩
theorem Try.sortedD : Go.Proofs.SlLaysZI.n6 Try.prog Try.sortedD_ren := {
  mixed := by kernel_rfl
  f6 := ⟨Try.f27.name, by decide, Try.func27.trans (congrArg some (by kernel_rfl))⟩
  f8 := ⟨Try.f44.name, by decide, Try.func44.trans (congrArg some (by kernel_rfl))⟩
  f11 := ⟨Try.f62.name, by decide, Try.func62.trans (congrArg some (by kernel_rfl))⟩
  t0 := Try.underlying0
  a0 := Try.isAgg0
  z0 := Try.sizeOf0
  v0 := Try.zeroValue0
  t24 := Try.underlying37
  a24 := Try.isAgg37
  z24 := Try.sizeOf37
  v24 := Try.zeroValue37
  t26 := Try.underlying3
  a26 := Try.isAgg3
  z26 := Try.sizeOf3
  v26 := Try.zeroValue3
  t28 := Try.underlying62
  a28 := Try.isAgg62
  z28 := Try.sizeOf62
  v28 := Try.zeroValue62
  i26 := by kernel_rfl }
def Try.sortD_ren : Go.Shelf.Ren := ⟨fun | 5 => 45 | 8 => 64 | 7 => 63 | 19 => 82 | 20 => 83 | 10 => 73 | 11 => 74 | 12 => 75 | 13 => 76 | 14 => 77 | 15 => 78 | 16 => 79 | 17 => 80 | 18 => 81 | 30 => 86 | 31 => 87 | 32 => 88 | 33 => 89 | 34 => 90 | 35 => 91 | 40 => 92 | n => n, fun | 23 => 37 | 25 => 3 | 3 => 3 | 32 => 90 | 22 => 37 | 0 => 0 | 44 => 87 | 46 => 57 | 4 => 4 | 36 => 113 | 35 => 112 | 41 => 117 | 5 => 5 | 9 => 9 | 53 => 123 | 57 => 127 | 63 => 129 | 64 => 130 | n => n, fun | n => n⟩
theorem Try.sortD : Go.Proofs.SlLaysM.n5 Try.prog Try.sortD_ren := {
  mixed := by kernel_rfl
  f5 := ⟨Try.f45.name, by decide, Try.func45.trans (congrArg some (by kernel_rfl))⟩
  f7 := ⟨Try.f63.name, by decide, Try.func63.trans (congrArg some (by kernel_rfl))⟩
  f8 := Try.func64.trans (congrArg some (by kernel_rfl))
  f10 := ⟨Try.f73.name, by decide, Try.func73.trans (congrArg some (by kernel_rfl))⟩
  f11 := ⟨Try.f74.name, by decide, Try.func74.trans (congrArg some (by kernel_rfl))⟩
  f12 := ⟨Try.f75.name, by decide, Try.func75.trans (congrArg some (by kernel_rfl))⟩
  f13 := ⟨Try.f76.name, by decide, Try.func76.trans (congrArg some (by kernel_rfl))⟩
  f14 := ⟨Try.f77.name, by decide, Try.func77.trans (congrArg some (by kernel_rfl))⟩
  f15 := ⟨Try.f78.name, by decide, Try.func78.trans (congrArg some (by kernel_rfl))⟩
  f16 := ⟨Try.f79.name, by decide, Try.func79.trans (congrArg some (by kernel_rfl))⟩
  f17 := ⟨Try.f80.name, by decide, Try.func80.trans (congrArg some (by kernel_rfl))⟩
  f18 := ⟨Try.f81.name, by decide, Try.func81.trans (congrArg some (by kernel_rfl))⟩
  f19 := Try.func82.trans (congrArg some (by kernel_rfl))
  f20 := Try.func83.trans (congrArg some (by kernel_rfl))
  f30 := ⟨Try.f86.name, by decide, Try.func86.trans (congrArg some (by kernel_rfl))⟩
  f31 := Try.func87.trans (congrArg some (by kernel_rfl))
  f32 := Try.func88.trans (congrArg some (by kernel_rfl))
  f33 := ⟨Try.f89.name, by decide, Try.func89.trans (congrArg some (by kernel_rfl))⟩
  f34 := ⟨Try.f90.name, by decide, Try.func90.trans (congrArg some (by kernel_rfl))⟩
  f35 := ⟨Try.f91.name, by decide, Try.func91.trans (congrArg some (by kernel_rfl))⟩
  f40 := ⟨Try.f92.name, by decide, Try.func92.trans (congrArg some (by kernel_rfl))⟩
  t0 := Try.underlying0
  a0 := Try.isAgg0
  z0 := Try.sizeOf0
  v0 := Try.zeroValue0
  t3 := Try.underlying3
  a3 := Try.isAgg3
  z3 := Try.sizeOf3
  v3 := Try.zeroValue3
  t4 := Try.underlying4
  a4 := Try.isAgg4
  z4 := Try.sizeOf4
  v4 := Try.zeroValue4
  t5 := Try.underlying5
  a5 := Try.isAgg5
  z5 := Try.sizeOf5
  v5 := Try.zeroValue5
  t9 := Try.underlying9
  a9 := Try.isAgg9
  z9 := Try.sizeOf9
  v9 := Try.zeroValue9
  t22 := Try.underlying37
  a22 := Try.isAgg37
  z22 := Try.sizeOf37
  v22 := Try.zeroValue37
  t23 := Try.underlying37
  a23 := Try.isAgg37
  z23 := Try.sizeOf37
  v23 := Try.zeroValue37
  t25 := Try.underlying3
  a25 := Try.isAgg3
  z25 := Try.sizeOf3
  v25 := Try.zeroValue3
  t32 := Try.underlying90
  a32 := Try.isAgg90
  z32 := Try.sizeOf90
  v32 := Try.zeroValue90
  t35 := Try.underlying112
  a35 := Try.isAgg112
  z35 := Try.sizeOf112
  v35 := Try.zeroValue112
  t36 := Try.underlying113
  a36 := Try.isAgg113
  z36 := Try.sizeOf113
  v36 := Try.zeroValue113
  t41 := Try.underlying117
  a41 := Try.isAgg117
  z41 := Try.sizeOf117
  v41 := Try.zeroValue117
  t44 := Try.underlying87
  a44 := Try.isAgg87
  z44 := Try.sizeOf87
  v44 := Try.zeroValue87
  t46 := Try.underlying57
  a46 := Try.isAgg57
  z46 := Try.sizeOf57
  v46 := Try.zeroValue57
  t53 := Try.underlying123
  a53 := Try.isAgg123
  z53 := Try.sizeOf123
  v53 := Try.zeroValue123
  t57 := Try.underlying127
  a57 := Try.isAgg127
  z57 := Try.sizeOf127
  v57 := Try.zeroValue127
  t63 := Try.underlying129
  a63 := Try.isAgg129
  z63 := Try.sizeOf129
  v63 := Try.zeroValue129
  t64 := Try.underlying130
  a64 := Try.isAgg130
  z64 := Try.sizeOf130
  v64 := Try.zeroValue130 }
end Go.Proofs

/- disc: Loose. -/
namespace Go.Proofs.Ytakkhglbdljfiaa
set_option linter.unusedVariables false
set_option linter.unusedSimpArgs false
open Go.RowKit Go.Maps Go.Shelf Go.Sort

/-- The numbers below n of which P holds, rising. -/
def riseN (n : Nat) (P : Int → Bool) : List Int := ((List.range n).map fun (i : Nat) => (i : Int)).filter P
theorem Z7a {n : Nat} {P : Int → Bool} {x : Int} : x ∈ riseN n P ↔ (0 ≤ x ∧ x < n) ∧ P x = true := by
  unfold riseN
  rw [List.mem_filter, List.mem_map]
  refine and_congr_left fun _ => ⟨?_, fun h => ⟨x.toNat, by rw [List.mem_range]; omega, by omega⟩⟩
  rintro ⟨i, hi, rfl⟩
  rw [List.mem_range] at hi
  omega
theorem Z2e (n : Nat) (P : Int → Bool) : (riseN n P).Pairwise (fun a b => a < b) :=
  List.Pairwise.filter _ (by rw [List.pairwise_map]; exact List.pairwise_lt_range.imp (fun {a b} h => by omega))
theorem Z56 (n : Nat) (P : Int → Bool) : (riseN n P).Nodup := (Z2e n P).imp (fun {a b} h e => by omega)
theorem Z4p (n : Nat) (P : Int → Bool) : (riseN n P).mergeSort leI = riseN n P :=
  List.mergeSort_of_pairwise ((Z2e n P).imp (fun {a b} h => by simp [leI]; omega))
/-- What is loose. -/
def looL (n : Nat) (L : Int → Option Sec) : List Int := riseN n fun i => (L i).isSome
theorem Z6a {w : World} {b n : Nat} {D : DataW Value} {m : Int → Option Value} (hown : w.ownsMap Try.prog 3 heldE b n D) (hD : SaysV D m) (L : List Int) (hnd : L.Nodup) (hL : ∀ x, x ∈ L ↔ wfV x ∧ (m x).isSome = true) : L.Perm (intKeys D) := by
  obtain ⟨es, clock, hb, F, hs, rfl⟩ := id hown
  obtain ⟨es', he, hp⟩ := hown.tidy Z1i
  injection he with he
  have hk : ∀ p ∈ es', ∃ x, p.1 = .int .i64 x ∧ wfV x := by
    intro p hpm
    rw [← he] at hpm
    obtain ⟨x, hx, rfl⟩ := List.mem_map.1 (mem_sorted.1 hpm)
    obtain ⟨y, hy⟩ := F.reads x hx
    obtain ⟨a, _, h2, h3⟩ := Maps.keyOf_int_inv Try.underlying3 (Go.WideElems.rd_key hy)
    exact ⟨a, by rw [Go.WideElems.rg_of hy]; exact h2, h3⟩
  rw [he] at hD ⊢
  refine perm_intKeys hp (fun p hpm => (hk p hpm).imp fun _ h => h.1) hnd (fun x => ?_)
  rw [hL]
  constructor
  · rintro ⟨h1, h2⟩
    rw [(hD x h1).2, h2]
  · intro h
    obtain ⟨d, hd⟩ := has_mem h
    obtain ⟨y, hy1, hy2⟩ := hk _ hd
    simp only at hy1
    injection hy1 with _ hy1
    subst hy1
    exact ⟨hy2, by rw [← (hD x hy2).2]; exact h⟩
theorem Z7g (L : List Int) : L.map encZ = L.flatMap (fun x => [Value.int .i64 x]) := by
  induction L with
  | nil => rfl
  | cons x l ih => rw [List.map_cons, List.flatMap_cons, ih]; rfl
theorem sortsD (m : Nat) : AnyZI.SortsIn Try.prog Try.sortedD_ren Fence.wide m :=
  ⟨fun blk off cap ss W hH hblk hsz => callsIn_wide.2 (AnyM.slices_Sort_int Try.sortD blk off cap ss W hH hblk hsz),
   fun p cap W => callsIn_wide.2 (AnyM.slices_Sort_int_none Try.sortD p cap W)⟩
set_option maxHeartbeats 1000000 in
theorem Z7c (b nn pb : Nat) (D0 : DataW Value) (w : World) (hown : w.ownsMap Try.prog 3 heldE b nn D0) (hmax : Maps.size D0 ≤ maxLen) (hbytes : Maps.size D0 * 8 ≤ 140737488355328)
    (q0 : w.cell? ⟨pb, 2, none⟩ = some (.map (some b))) :
    Calls Try.prog 12 #[.pointer (some ⟨pb, 0, none⟩)] w fun e w' => ∃ (v : Value) (ss : List Int), e = .returned v ∧ ss.Perm (intKeys D0) ∧
      w'.ownsRow w.heap.size 3 1 v ss.length ((ss.mergeSort (fun x y => decide (x ≤ y))).map encZ) ∧ Below w.heap.size w w' := by
  refine (callsIn_wide (n := 6)).1 ?_
  have hbl := hown.lt
  have hseq : SeqGives Fence.wide 2 Try.prog 46 #[.pointer (some ⟨w.heap.size, 0, none⟩)] encZ (fun ss => ss.Perm (intKeys D0)) (Maps.size D0) (w.alloc (.cells #[.map (some b)] 49)) :=
    AnyZI.keys_gives (ρ := Try.keysD_ren) { Try.keysD with } Fence.wide _ trivial rfl (by omega) w.heap.size b nn D0 _ (by simp) (by simp) (by
      obtain ⟨es, clock, hb, Ft, hs, hD⟩ := hown
      exact ⟨es, clock, (Below.heap_alloc _ _ b hbl).trans hb, Ft, hs, hD⟩)
  have cK : ∀ mb W, CallsIn Fence.wide 5 Try.prog 28 #[.map mb] W fun e w' => e = .returned (.func (.func 46) #[] #[.pointer (some ⟨W.heap.size, 0, none⟩)]) ∧ w' = W.alloc (.cells #[.map mb] 49) := fun mb W => AnyZI.keys_in Try.keysD Fence.wide 5 trivial rfl mb W
  have cS := AnyZI.sorted_in Try.sortedD Fence.wide 5 trivial trivial trivial trivial rfl (by omega) (sortsD _) (enters_of Try.func45 (by kernel_rfl) rfl) 46 #[.pointer (some ⟨w.heap.size, 0, none⟩)] trivial (enters_of Try.func46 (by kernel_rfl) rfl) _ _ hmax hbytes _ hseq
  change CallsIn _ _ Try.prog 27 _ _ _ at cS
  have hfK : Fence.wide.fn 28 := trivial
  have hfS : Fence.wide.fn 27 := trivial
  refine callsIn_of_wp Try.func12 rfl trivial ?_ rfl
  simp only [Try.ntmps12, List.size_toArray, List.length_cons, List.length_nil, Nat.reduceAdd, Nat.reduceSub, Array.replicate_succ, Array.replicate_zero, List.push_toArray, List.append_toArray, List.nil_append, List.cons_append]
  gi_wp2_with (first
    | (gi_at_call 28; refine (cK _ _).mono ?_; rintro e w' ⟨rfl, rfl⟩)
    | (gi_at_call 27; refine cS.mono ?_; rintro e w' ⟨v, ss, rfl, hS, hrow, hnil, hb⟩))
  go_ret
  exact ⟨v, ss, rfl, hS, ownsRow_base_a hrow (by simp), ((Below.refl _ w).alloc (Nat.le_refl _) _).trans (hb.mono (by simp))⟩
abbrev encI : Int → List Value := fun x => [.int .i64 x]
/-- The loose ones, in a row of one's own. -/
theorem Z6c {p mb n cap bm : Nat} {B : Option Addr} {S : List Sec} {L : Int → Option Sec} (w : World) (h : DiscR p mb B n cap bm S L w) :
    Calls Try.prog 12 #[.pointer (some ⟨p, 0, none⟩)] w fun e w' => ∃ B' cap', e = .returned (.slice B' (looL n L).length cap') ∧ (looL n L).length ≤ cap' ∧ cap' ≤ maxLen ∧ w'.ownsRow w.heap.size 3 1 (.slice B' (looL n L).length cap') (looL n L).length ((looL n L).flatMap encI) ∧ Row w' B' 1 encI (looL n L) ∧ Ext w w' := by
  obtain ⟨D, hown, hD⟩ := h.map
  have hsz := hown.size_le
  have hn := h.ok.le
  refine (Z7c bm 16384 p D w hown (by unfold maxLen; omega) (by omega) (h.blk.cell 2)).mono ?_
  rintro e w' ⟨v, ss, rfl, hperm, hrow, hb⟩
  have hp := Z6a hown hD (looL n L) (Z56 _ _) (fun x => by
    unfold looL
    rw [Z7a, Z5a]
    constructor
    · rintro ⟨h1, h2⟩
      exact ⟨Z5j (by omega) (by omega), h2⟩
    · rintro ⟨_, h2⟩
      obtain ⟨s, hs⟩ := Option.isSome_iff_exists.1 h2
      exact ⟨(h.ok.rng x s hs).1, h2⟩)
  have h1 : ss.mergeSort (fun x y => decide (x ≤ y)) = looL n L := by
    have h1 := mergeSort_of_perm_i (hperm.trans hp.symm)
    rw [show (looL n L).mergeSort leI = looL n L from Z4p _ _] at h1
    exact h1
  have h2 : ss.length = (looL n L).length := (hperm.trans hp.symm).length_eq
  rw [h1, h2, Z7g] at hrow
  obtain ⟨B', cap', rfl, hc, hm, _, hR⟩ := Z2y (k := 1) (enc := encI) (fun _ => rfl) Nat.one_pos hrow
  exact ⟨B', cap', rfl, hc, hm, hrow, hR, hb⟩
end Go.Proofs.Ytakkhglbdljfiaa

/- disc: stays, Settle, Of (printed by XDiscD.gen.py). -/
namespace Go.Proofs.Ytakkhglbdljfiaa
set_option linter.unusedVariables false
set_option linter.unusedSimpArgs false
open Go.RowKit Go.Maps

theorem DOk.none {n : Nat} {S : List Sec} {L : Int → Option Sec} (h : DOk n S L) : DOk n S (fun _ => Option.none) := ⟨h.le, h.len, h.sz, fun i s e => by cases e⟩
theorem rowE_of {E : Type} {enc : E → List Value} {k : Nat} (hk : ∀ x, (enc x).length = k) (hk0 : 0 < k) {w : World} {base n cap : Nat} {T : TypeId} {B : Option Addr} {X : List E} (h : w.ownsRow base T k (.slice B n cap) n (X.flatMap enc)) : Row w B k enc X := by
 obtain ⟨B', cap', e, _, _, _, hR⟩ := Z2y hk hk0 h
 cases e
 exact hR
section
variable {H : Nat} {A w : World} {X Y Z : Thing} {R : List Thing}
end
theorem elemS : ElemI Try.prog 22 9 1 16 := ⟨Try.underlying22, by
 have h : (Try.prog.info? 9).map (fun i => (i.zero, i.size, i.bytes)) = some (some (.string (sB [])), 1, 16) := by kernel_rfl
 obtain ⟨i, h1, h2, h3, h4⟩ := info_parts h
 exact ⟨i, _, h1, h2, h3, h4, rfl⟩⟩

end Go.Proofs.Ytakkhglbdljfiaa
