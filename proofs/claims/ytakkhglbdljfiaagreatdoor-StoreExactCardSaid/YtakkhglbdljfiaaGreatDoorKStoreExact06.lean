/- The library's contracts that this proof uses, laid by the kit's own tool at this translation (plain words). -/
import Derived.Shelf.SlIterI.Nil
import Derived.Shelf.SortM.Plain
import Derived.Shelf.SortM.SortNone
import Derived.Ground.GgzProg
import Derived.Ground.SlgmProg
import Derived.Test.YtakkhglbdljfiaaGreatDoorProg
import Derived.Test.YtakkhglbdljfiaaGreatDoorKStoreExact04
import Derived.Shelf.AbstractIn
import Derived.TacticsInMore
import Derived.Lib.SlKeysI
import Derived.Test.YtakkhglbdljfiaaGreatDoorKStoreExact05
import Derived.Test.YtakkhglbdljfiaaGreatDoorKStoreExact00
import Derived.Test.YtakkhglbdljfiaaGreatDoorKStoreExact02
namespace Go.Proofs
open Go.Shelf
def Tryz.sortedD_ren : Go.Shelf.Ren := ⟨fun | 6 => 72 | 8 => 102 | 9 => 103 | 11 => 120 | 13 => 122 | 12 => 121 | 23 => 142 | 24 => 143 | 14 => 133 | 15 => 134 | 16 => 135 | 17 => 136 | 18 => 137 | 19 => 138 | 20 => 139 | 21 => 140 | 22 => 141 | 25 => 148 | 26 => 149 | 27 => 150 | 28 => 151 | 29 => 152 | 30 => 153 | 31 => 157 | n => n, fun | 26 => 3 | 28 => 126 | 24 => 40 | 0 => 0 | 3 => 3 | 37 => 26 | 48 => 158 | 50 => 37 | 4 => 4 | 40 => 188 | 39 => 187 | 45 => 192 | 5 => 5 | 9 => 9 | 51 => 200 | 55 => 204 | 57 => 207 | 58 => 49 | 33 => 95 | n => n, fun | n => n⟩
theorem Tryz.sortedD : Go.Proofs.SlLaysZI.n6 Tryz.prog Tryz.sortedD_ren := {
  mixed := by kernel_rfl
  f6 := ⟨Tryz.f72.name, by decide, Tryz.func72.trans (congrArg some (by kernel_rfl))⟩
  f8 := ⟨Tryz.f102.name, by decide, Tryz.func102.trans (congrArg some (by kernel_rfl))⟩
  f11 := ⟨Tryz.f120.name, by decide, Tryz.func120.trans (congrArg some (by kernel_rfl))⟩
  t0 := Tryz.underlying0
  a0 := Tryz.isAgg0
  z0 := Tryz.sizeOf0
  v0 := Tryz.zeroValue0
  t24 := Tryz.underlying40
  a24 := Tryz.isAgg40
  z24 := Tryz.sizeOf40
  v24 := Tryz.zeroValue40
  t26 := Tryz.underlying3
  a26 := Tryz.isAgg3
  z26 := Tryz.sizeOf3
  v26 := Tryz.zeroValue3
  t28 := Tryz.underlying126
  a28 := Tryz.isAgg126
  z28 := Tryz.sizeOf126
  v28 := Tryz.zeroValue126
  i26 := by kernel_rfl }
def Tryz.sortD_ren : Go.Shelf.Ren := ⟨fun | 5 => 103 | 8 => 122 | 7 => 121 | 19 => 142 | 20 => 143 | 10 => 133 | 11 => 134 | 12 => 135 | 13 => 136 | 14 => 137 | 15 => 138 | 16 => 139 | 17 => 140 | 18 => 141 | 30 => 148 | 31 => 149 | 32 => 150 | 33 => 151 | 34 => 152 | 35 => 153 | 40 => 157 | n => n, fun | 23 => 40 | 25 => 3 | 3 => 3 | 32 => 26 | 22 => 40 | 0 => 0 | 44 => 158 | 46 => 37 | 4 => 4 | 36 => 188 | 35 => 187 | 41 => 192 | 5 => 5 | 9 => 9 | 53 => 200 | 57 => 204 | 63 => 207 | 64 => 49 | n => n, fun | n => n⟩
theorem Tryz.sortD : Go.Proofs.SlLaysM.n5 Tryz.prog Tryz.sortD_ren := {
  mixed := by kernel_rfl
  f5 := ⟨Tryz.f103.name, by decide, Tryz.func103.trans (congrArg some (by kernel_rfl))⟩
  f7 := ⟨Tryz.f121.name, by decide, Tryz.func121.trans (congrArg some (by kernel_rfl))⟩
  f8 := Tryz.func122.trans (congrArg some (by kernel_rfl))
  f10 := ⟨Tryz.f133.name, by decide, Tryz.func133.trans (congrArg some (by kernel_rfl))⟩
  f11 := ⟨Tryz.f134.name, by decide, Tryz.func134.trans (congrArg some (by kernel_rfl))⟩
  f12 := ⟨Tryz.f135.name, by decide, Tryz.func135.trans (congrArg some (by kernel_rfl))⟩
  f13 := ⟨Tryz.f136.name, by decide, Tryz.func136.trans (congrArg some (by kernel_rfl))⟩
  f14 := ⟨Tryz.f137.name, by decide, Tryz.func137.trans (congrArg some (by kernel_rfl))⟩
  f15 := ⟨Tryz.f138.name, by decide, Tryz.func138.trans (congrArg some (by kernel_rfl))⟩
  f16 := ⟨Tryz.f139.name, by decide, Tryz.func139.trans (congrArg some (by kernel_rfl))⟩
  f17 := ⟨Tryz.f140.name, by decide, Tryz.func140.trans (congrArg some (by kernel_rfl))⟩
  f18 := ⟨Tryz.f141.name, by decide, Tryz.func141.trans (congrArg some (by kernel_rfl))⟩
  f19 := Tryz.func142.trans (congrArg some (by kernel_rfl))
  f20 := Tryz.func143.trans (congrArg some (by kernel_rfl))
  f30 := ⟨Tryz.f148.name, by decide, Tryz.func148.trans (congrArg some (by kernel_rfl))⟩
  f31 := Tryz.func149.trans (congrArg some (by kernel_rfl))
  f32 := Tryz.func150.trans (congrArg some (by kernel_rfl))
  f33 := ⟨Tryz.f151.name, by decide, Tryz.func151.trans (congrArg some (by kernel_rfl))⟩
  f34 := ⟨Tryz.f152.name, by decide, Tryz.func152.trans (congrArg some (by kernel_rfl))⟩
  f35 := ⟨Tryz.f153.name, by decide, Tryz.func153.trans (congrArg some (by kernel_rfl))⟩
  f40 := ⟨Tryz.f157.name, by decide, Tryz.func157.trans (congrArg some (by kernel_rfl))⟩
  t0 := Tryz.underlying0
  a0 := Tryz.isAgg0
  z0 := Tryz.sizeOf0
  v0 := Tryz.zeroValue0
  t3 := Tryz.underlying3
  a3 := Tryz.isAgg3
  z3 := Tryz.sizeOf3
  v3 := Tryz.zeroValue3
  t4 := Tryz.underlying4
  a4 := Tryz.isAgg4
  z4 := Tryz.sizeOf4
  v4 := Tryz.zeroValue4
  t5 := Tryz.underlying5
  a5 := Tryz.isAgg5
  z5 := Tryz.sizeOf5
  v5 := Tryz.zeroValue5
  t9 := Tryz.underlying9
  a9 := Tryz.isAgg9
  z9 := Tryz.sizeOf9
  v9 := Tryz.zeroValue9
  t22 := Tryz.underlying40
  a22 := Tryz.isAgg40
  z22 := Tryz.sizeOf40
  v22 := Tryz.zeroValue40
  t23 := Tryz.underlying40
  a23 := Tryz.isAgg40
  z23 := Tryz.sizeOf40
  v23 := Tryz.zeroValue40
  t25 := Tryz.underlying3
  a25 := Tryz.isAgg3
  z25 := Tryz.sizeOf3
  v25 := Tryz.zeroValue3
  t32 := Tryz.underlying26
  a32 := Tryz.isAgg26
  z32 := Tryz.sizeOf26
  v32 := Tryz.zeroValue26
  t35 := Tryz.underlying187
  a35 := Tryz.isAgg187
  z35 := Tryz.sizeOf187
  v35 := Tryz.zeroValue187
  t36 := Tryz.underlying188
  a36 := Tryz.isAgg188
  z36 := Tryz.sizeOf188
  v36 := Tryz.zeroValue188
  t41 := Tryz.underlying192
  a41 := Tryz.isAgg192
  z41 := Tryz.sizeOf192
  v41 := Tryz.zeroValue192
  t44 := Tryz.underlying158
  a44 := Tryz.isAgg158
  z44 := Tryz.sizeOf158
  v44 := Tryz.zeroValue158
  t46 := Tryz.underlying37
  a46 := Tryz.isAgg37
  z46 := Tryz.sizeOf37
  v46 := Tryz.zeroValue37
  t53 := Tryz.underlying200
  a53 := Tryz.isAgg200
  z53 := Tryz.sizeOf200
  v53 := Tryz.zeroValue200
  t57 := Tryz.underlying204
  a57 := Tryz.isAgg204
  z57 := Tryz.sizeOf204
  v57 := Tryz.zeroValue204
  t63 := Tryz.underlying207
  a63 := Tryz.isAgg207
  z63 := Tryz.sizeOf207
  v63 := Tryz.zeroValue207
  t64 := Tryz.underlying49
  a64 := Tryz.isAgg49
  z64 := Tryz.sizeOf49
  v64 := Tryz.zeroValue49 }
end Go.Proofs

/- disc: Loose. -/
namespace Go.Proofs.YtakkhglbdljfiaaGreatDoor
set_option linter.unusedVariables false
set_option linter.unusedSimpArgs false
open Go.RowKit Go.Maps Go.Shelf Go.Sort

/-- The numbers below n of which P holds, rising. -/
def riseN (n : Nat) (P : Int → Bool) : List Int := ((List.range n).map fun (i : Nat) => (i : Int)).filter P
theorem Z3i {n : Nat} {P : Int → Bool} {x : Int} : x ∈ riseN n P ↔ (0 ≤ x ∧ x < n) ∧ P x = true := by
  unfold riseN
  rw [List.mem_filter, List.mem_map]
  refine and_congr_left fun _ => ⟨?_, fun h => ⟨x.toNat, by rw [List.mem_range]; omega, by omega⟩⟩
  rintro ⟨i, hi, rfl⟩
  rw [List.mem_range] at hi
  omega
theorem Z4b (n : Nat) (P : Int → Bool) : (riseN n P).Pairwise (fun a b => a < b) :=
  List.Pairwise.filter _ (by rw [List.pairwise_map]; exact List.pairwise_lt_range.imp (fun {a b} h => by omega))
theorem Z2d (n : Nat) (P : Int → Bool) : (riseN n P).Nodup := (Z4b n P).imp (fun {a b} h e => by omega)
theorem Z7h (n : Nat) (P : Int → Bool) : (riseN n P).mergeSort leI = riseN n P :=
  List.mergeSort_of_pairwise ((Z4b n P).imp (fun {a b} h => by simp [leI]; omega))
theorem Z38 (n : Nat) (P : Int → Bool) : (riseN n P).length ≤ n := by
  have := List.length_filter_le P ((List.range n).map fun (i : Nat) => (i : Int))
  simpa [riseN] using this
theorem riseN_congr {n : Nat} {P Q : Int → Bool} (h : ∀ i : Nat, i < n → P i = Q i) : riseN n P = riseN n Q := by
  unfold riseN
  refine List.filter_congr fun x hx => ?_
  obtain ⟨i, hi, rfl⟩ := List.mem_map.1 hx
  exact h i (by simpa using hi)
/-- What is loose. -/
def looL (n : Nat) (L : Int → Option Sec) : List Int := riseN n fun i => (L i).isSome
theorem Z68 {w : World} {b n : Nat} {D : DataW Value} {m : Int → Option Value} (hown : w.ownsMap Tryz.prog 3 heldE b n D) (hD : SaysV D m) (L : List Int) (hnd : L.Nodup) (hL : ∀ x, x ∈ L ↔ wfV x ∧ (m x).isSome = true) : L.Perm (intKeys D) := by
  obtain ⟨es, clock, hb, F, hs, rfl⟩ := id hown
  obtain ⟨es', he, hp⟩ := hown.tidy Z1s
  injection he with he
  have hk : ∀ p ∈ es', ∃ x, p.1 = .int .i64 x ∧ wfV x := by
    intro p hpm
    rw [← he] at hpm
    obtain ⟨x, hx, rfl⟩ := List.mem_map.1 (mem_sorted.1 hpm)
    obtain ⟨y, hy⟩ := F.reads x hx
    obtain ⟨a, _, h2, h3⟩ := Maps.keyOf_int_inv Tryz.underlying3 (Go.WideElems.rd_key hy)
    exact ⟨a, by rw [Go.WideElems.rg_of hy]; exact h2, h3⟩
  rw [he] at hD ⊢
  refine perm_intKeys hp (fun p hpm => (hk p hpm).imp fun _ h => h.1) hnd (fun x => ?_)
  rw [hL]
  constructor
  · rintro ⟨h1, h2⟩
    rw [(hD x h1).2, h2]
  · intro h
    obtain ⟨d, hd⟩ := has_mem h
    obtain ⟨y, hy1, hy2⟩ := hk _ hd
    simp only at hy1
    injection hy1 with _ hy1
    subst hy1
    exact ⟨hy2, by rw [← (hD x hy2).2]; exact h⟩
end Go.Proofs.YtakkhglbdljfiaaGreatDoor

/- disc: stays, Settle, Of (printed by XDiscD.gen.py). -/
namespace Go.Proofs.YtakkhglbdljfiaaGreatDoor
attribute [local simp] BigFrame.eval_const BigFrame.eval_global BigFrame.eval_func
set_option linter.unusedVariables false
set_option linter.unusedSimpArgs false
open Go.RowKit Go.Maps

theorem DOk.none {n : Nat} {S : List Sec} {L : Int → Option Sec} (h : DOk n S L) : DOk n S (fun _ => Option.none) := ⟨h.le, h.len, h.sz, fun i s e => by cases e⟩
theorem rowE_of {E : Type} {enc : E → List Value} {k : Nat} (hk : ∀ x, (enc x).length = k) (hk0 : 0 < k) {w : World} {base n cap : Nat} {T : TypeId} {B : Option Addr} {X : List E} (h : w.ownsRow base T k (.slice B n cap) n (X.flatMap enc)) : Row w B k enc X := by
 obtain ⟨B', cap', e, _, _, _, hR⟩ := Z57 hk hk0 h
 cases e
 exact hR
section
variable {H : Nat} {A w : World} {X Y Z : Thing} {R : List Thing}
end
theorem elemS : ElemI Tryz.prog 111 9 1 16 := ⟨Tryz.underlying111, by
 have h : (Tryz.prog.info? 9).map (fun i => (i.zero, i.size, i.bytes)) = some (some (.string (sB [])), 1, 16) := by kernel_rfl
 obtain ⟨i, h1, h2, h3, h4⟩ := info_parts h
 exact ⟨i, _, h1, h2, h3, h4, rfl⟩⟩

set_option linter.unusedVariables false
set_option linter.unusedSimpArgs false
open Go.RowKit Go.Maps

def strLen (v : Value) : Nat := match v with | .string s => s.size | _ => 0
theorem dok_secs {l : List UInt8} {j : Nat} (h1 : j ≤ l.length / 16) (h2 : j ≤ 16384) : DOk j (secsL l j) (fun _ => none) :=
 ⟨h2, Z7a l j, fun s hs => by
  obtain ⟨i, hi, rfl⟩ := List.mem_map.1 hs
  rw [List.mem_range] at hi
  exact Z7b (by omega), fun i s e => by cases e⟩
def zsec : Sec := List.replicate 16 0
theorem secsL_zero (k n : Nat) (h : k ≤ n) : secsL (List.replicate (16 * n) 0) k = List.replicate k zsec := by
 apply List.ext_getElem?
 intro i; by_cases hi : i < k
 · rw [secsL_at hi, List.getElem?_replicate, if_pos hi]
   unfold secOf zsec
   rw [List.drop_replicate, List.take_replicate]
   congr 2
   omega
 · rw [List.getElem?_eq_none (by rw [Z7a]; omega), List.getElem?_eq_none (by rw [List.length_replicate]; omega)]
theorem rep_zero (k : Nat) : Lib.repeatL [0] k = List.replicate k (0 : UInt8) := by
 induction k with
 | zero => rfl
 | succ k ih => rw [List.replicate_succ, ← ih]; rfl

set_option maxRecDepth 100000 in
set_option maxHeartbeats 4000000 in
theorem dof_any {H : Nat} {A0 : World} {R : List Thing} {mb : Nat} (l : List UInt8) (w : World) (O : OwnT H A0 R w) (hl : l.length ≤ 1000000000000) : Calls Tryz.prog 35 #[.pointer (some ⟨mb, 0, none⟩), .string (sB l)] w fun e w' => ∃ p B cap bm, e = .returned (.pointer (some ⟨p, 0, none⟩)) ∧ OwnT H A0 (tDisc p mb B (min (l.length / 16) 16384) cap bm (secsL l (min (l.length / 16) 16384)) (fun _ => none) :: R) w' := by
 refine Z0c Tryz.func35 rfl 35 rfl (by rfl) ?_
 intro a1 k hargs; have e0 : a1.eval (.tmp 0) = .pointer (some ⟨mb, 0, none⟩) := hargs 0 _ rfl
 have e1 : a1.eval (.tmp 1) = .string (sB l) := hargs 1 _ rfl
 clear hargs; refine wp_seq ?_; refine wp_region_lit ?_
 have hE := Env.refl a1 [4]; refine sd 4 hE k (Z01 rfl rfl) ?_; intro a2 hE e4 kp; refine wpList_nil ?_; replace e0 := hE.g e0; replace e1 := hE.g e1; replace k := k.env hE; clear hE e4; refine Z00 (wp_seq ?_); refine wp_region_lit ?_
 have hE := Env.refl a2 [6, 7, 8, 9, 5]; refine zm 6 hE k e0 ?_; intro a3 hE e6 kp; refine sq_map O 7 hE k rfl (by rfl) (by rfl) rfl (by simp [go_sem, ↓IntWalk.iteOmega, @run_makeMap Tryz.prog]) ?_
 clear O; intro bm a4 w5 O hE e7 kp; replace e6 := kt kp e6; apply Z03 8 hE k rfl rfl rfl rfl; case h =>
  simp [go_sem, ↓IntWalk.iteOmega, ev e6, ev e7]
  with_reducible rfl
 intro a6 hE e8 kp; refine Z0v O (cs := #[.pointer (some ⟨mb, 0, none⟩), .slice none 0 0, .map (some bm)]) (t := 114) 9 hE k rfl (by rfl) (by rfl) rfl (by simp [go_sem, ↓IntWalk.iteOmega, ev e8]) ?_
 clear O; intro p a7 w8 O hE e9 kp; refine sd 5 hE k (Z01 rfl e9) ?_; intro a9 hE e5 kp; refine wpList_nil ?_; replace e1 := hE.g e1; replace k := k.env hE; clear hE e0; refine Z00 (wp_seq ?_); refine wp_block ?_; replace O := OwnT.nilRow O 9 1
 refine wp_loop (fun a w => Fr 35 a ∧ a.eval (.tmp 5) = .pointer (some ⟨p, 0, none⟩) ∧ ∃ (j : Nat) (B : Option Addr) (cap : Nat), a.eval (.tmp 1) = .string (sB (l.drop (16 * j))) ∧ j ≤ l.length / 16 ∧ j ≤ 16384 ∧ OwnT H A0 ((tRow 9 1 (.slice B j cap) j (strsV (secsL l j))) :: (tBlk p 114 #[.pointer (some ⟨mb, 0, none⟩), .slice B j cap, .map (some bm)]) :: (tMap bm 0 (fun _ => none)) :: R) w) (fun a w => strLen (a.eval (.tmp 1))) ?_ ?_
 · exact ⟨k, e5, 0, none, 0, e1, Nat.zero_le _, Nat.zero_le _, O⟩
 intro a10 w11 hI; clear k e5; obtain ⟨k, e5, h_⟩ := hI
 clear O e1; obtain ⟨j, B, cap, e1, hj, hj2, O⟩ := h_
 have m1 := e1
 have hd : (l.drop (16 * j)).length = l.length - 16 * j := List.length_drop

 by_cases hlt : j < l.length / 16
 · by_cases hlt2 : j < 16384
   · skip
     refine wp_seq ?_; refine wp_seq ?_; refine wp_region_lit ?_
     have hE := Env.refl a10 [10, 11, 12, 13, 14, 15, 16, 17, 18, 19, 20]; refine zm 10 hE k e1 ?_; intro a12 hE e10 kp; refine sd 11 hE k (Z4r Tryz.underlying9 rfl e10) ?_; intro a13 hE e11 kp; refine sd 12 hE k (Z08 (Z1l rfl e11 rfl) (decide_eq_true (by omega))) ?_
     intro a14 hE e12 kp; refine sd 13 hE k (Z02 rfl e12) ?_; intro a15 hE e13 kp; apply Z04 14 hE k rfl rfl rfl rfl rfl e13
     case h =>
      exact Z02 rfl (hE.g e5)
     intro a16 hE e14 kp; replace e13 := kt kp e13; apply Z04 15 hE k rfl rfl rfl rfl rfl e13
     case h =>
      exact Z0d rfl e14
     intro a17 hE e15 kp; replace e13 := kt kp e13; apply Z04 16 hE k rfl rfl rfl rfl rfl e13
     case h =>
      simp [go_sem, ↓IntWalk.iteOmega, ev e15]
      with_reducible rfl
     intro a18 hE e16 kp; replace e13 := kt kp e13; apply Z04 17 hE k rfl rfl rfl rfl rfl e13
     case h =>
      exact Z0a O 1 rfl rfl e16 rfl Tryz.underlying111 rfl
     intro a19 hE e17 kp; replace e13 := kt kp e13; apply Z04 18 hE k rfl rfl rfl rfl rfl e13
     case h =>
      exact Z1w Tryz.underlying111 rfl e17
     intro a20 hE e18 kp; replace e13 := kt kp e13; apply Z04 19 hE k rfl rfl rfl rfl rfl e13
     case h =>
      exact Z08 (Z0z rfl e18 rfl) (decide_eq_true (by omega))
     intro a21 hE e19 kp; replace e13 := kt kp e13; refine sd 20 hE k (Z0b rfl e13 e19) ?_; intro a22 hE e20 kp; refine wpList_nil ?_; replace e1 := hE.g e1; replace e5 := hE.g e5; replace k := k.env hE; clear hE; refine Z00 ?_; refine Z0h e20 rfl ?_
     refine wp_skip ?_; refine Z00 ?_; refine wp_block ?_; refine wp_seq ?_; obtain ⟨gs, hgs⟩ : ∃ z, w11.heap.size = z := ⟨_, rfl⟩
     refine Z3v (fun l_ w_ w_' => if l_ 8 = true then Ext w_ w_' else True) (fun l_ w_ => AppI _ _ 9 1 (.slice B j cap) j (strsV (secsL l j)) gs [Value.string (sB ((l.drop (16 * j)).take 16))] ((tBlk p 114 #[.pointer (some ⟨mb, 0, none⟩), .slice B j cap, .map (some bm)]) :: (tMap bm 0 (fun _ => none)) :: R) (l_ 7) (l_ 8) w_) [[], [], [1], [1, 2], [1, 2, 3], [], [5], [5, 6], [1, 2, 3, 4, 5, 6, 7], rg 9, rg 10, rg 11] [21, 22, 23, 24, 25, 26, 27, 28, 29, 30, 31] (fun l w => by split; exact Ext.refl _; exact True.intro) (by rw [← hgs]; exact AppI.start O) (by kernel_rfl) ?_
     apply BuildL.det 21 (fun l w => by split; exact Ext.refl _; exact True.intro) (fun l w h => h) (by rfl) (by rw [k.size]; rfl) rfl
     case h =>
      intro lx ax wx hE hR hF; exact Z02 rfl (hE.g e5)
     apply BuildL.det 22 (fun l w => by split; exact Ext.refl _; exact True.intro) (fun l w h => h) (by rfl) (by rw [k.size]; rfl) rfl
     case h =>
      intro lx ax wx hE hR hF; exact Z02 rfl (hE.g e5)
     apply BuildL.det 23 (fun l w => by split; exact Ext.refl _; exact True.intro) (fun l w h => h) (by rfl) (by rw [k.size]; rfl) rfl
     case h =>
      intro lx ax wx hE hR hF; have e22 := hF 1 (detL 1 22 _) (by decide) ml0
      exact Z0d rfl e22
     apply BuildL.det 24 (fun l w => by split; exact Ext.refl _; exact True.intro) (fun l w h => h) (by rfl) (by rw [k.size]; rfl) rfl
     case h =>
      intro lx ax wx hE hR hF; have e23 := hF 2 (detL 2 23 _) (by decide) ml0
      simp [go_sem, ↓IntWalk.iteOmega, ev e23]
      with_reducible rfl
     apply BuildL.det 25 (fun l w => by split; exact Ext.refl _; exact True.intro) (fun l w h => h) (by rfl) (by rw [k.size]; rfl) rfl
     case h =>
      intro lx ax wx hE hR hF; have e24 := hF 3 (detL 3 24 _) (by decide) ml0
      exact Z0a (AppI.own hR) 0 rfl rfl e24 rfl Tryz.underlying111 rfl
     apply BuildL.det 26 (fun l w => by split; exact Ext.refl _; exact True.intro) (fun l w h => h) (by rfl) (by rw [k.size]; rfl) rfl
     case h =>
      intro lx ax wx hE hR hF; exact Z02 rfl (hE.g e1)
     apply BuildL.det 27 (fun l w => by split; exact Ext.refl _; exact True.intro) (fun l w h => h) (by rfl) (by rw [k.size]; rfl) rfl
     case h =>
      intro lx ax wx hE hR hF; have e26 := hF 5 (detL 5 26 _) (by decide) ml0
      exact Z6g (l := l.drop (16 * j)) Tryz.underlying9 rfl e26 rfl 16 rfl (by omega)
     refine BuildL.new 28 (fun v w => v = .slice (some ⟨gs, 0, none⟩) 1 1) (fun l v w w' _ _ h => h) (by rfl) (by rw [k.size]; rfl) rfl ?_ ?_
     · intro lx ax wx hE hR hl hA hF; have e27 := hF 6 (detL 6 27 _) (by decide) ml0
       exact app_build hR hl (by decide) (by simp [go_sem, ↓IntWalk.iteOmega, ev e27])
     refine BuildL.new 29 (fun v_ w_ => OwnT H A0 (tRow 9 1 v_ (j + 1) ((strsV (secsL l j)) ++ [Value.string (sB ((l.drop (16 * j)).take 16))]) :: tBlk gs 9 #[Value.string (sB ((l.drop (16 * j)).take 16))] :: (tBlk p 114 #[.pointer (some ⟨mb, 0, none⟩), .slice B j cap, .map (some bm)]) :: (tMap bm 0 (fun _ => none)) :: R) w_) (fun l_ v_ w_ w_' hl hR h => by rw [if_pos hl] at hR; exact h.ext hR) (by rfl) (by rw [k.size]; rfl) rfl ?_ ?_
     · intro lx ax wx hE hR hl hA hF; have e25 := hF 4 (detL 4 25 _) (by decide) ml3
       have f28 := hF 7 _ (by decide) ml0
       exact app_grow hR hl (hA 7 (by decide)) (by decide) elemS (by decide) rfl (by intro u hu; simp at hu; subst hu; rfl) (by unfold maxLen; omega) (by omega) (fun r w' h => x_append rfl e25 f28 h)
     apply BuildL.det 30 (fun l w => by split; exact Ext.refl _; exact True.intro) (fun l w h => h) (by rfl) (by rw [k.size]; rfl) rfl
     case h =>
      intro lx ax wx hE hR hF; have e21 := hF 0 (detL 0 21 _) (by decide) ml8
      exact Z0d rfl e21
     apply BuildL.det 31 (fun l w => by split; exact Ext.refl _; exact True.intro) (fun l w h => h) (by rfl) (by rw [k.size]; rfl) rfl
     case h =>
      intro lx ax wx hE hR hF; have e30 := hF 9 (detL 9 30 _) (by decide) ml0
      simp [go_sem, ↓IntWalk.iteOmega, ev e30]
      with_reducible rfl
     apply BuildL.stop
     refine ⟨by kernel_rfl, ?_⟩
     clear O; intro lx a23 w24 hE RI hL hF; clear RI; have f29 := hF 8 _ ml2
     have e31 : a23.eval (.tmp 31) = _ := hF 10 (detL 10 31 _) ml0
     clear hF hL; obtain ⟨vr, e29, O⟩ : ∃ v', a23.eval (.tmp 29) = v' ∧ OwnT H A0 (tRow 9 1 v' (j + 1) ((strsV (secsL l j)) ++ [Value.string (sB ((l.drop (16 * j)).take 16))]) :: tBlk gs 9 #[Value.string (sB ((l.drop (16 * j)).take 16))] :: (tBlk p 114 #[.pointer (some ⟨mb, 0, none⟩), .slice B j cap, .map (some bm)]) :: (tMap bm 0 (fun _ => none)) :: R) w24 := ⟨_, rfl, f29⟩
     clear f29; obtain ⟨gr, cr, rfl⟩ := OwnT.slice0 O (by omega)
     replace O := OwnT.pick01 O
     simp only [List.length_cons, List.length_nil, Nat.zero_add, Nat.reduceAdd, List.drop_succ_cons, List.drop_zero, List.drop_nil, tailOps]
     show Oper.wp _ _ _ _ _ _
     have q0 : w24.cell? ⟨p, 1, none⟩ = some (.slice B j cap) := (OwnT.blk O 1 rfl).cell 1
     have q1 : w24.frozen? ⟨p, 1, none⟩ = false := (OwnT.blk O 1 rfl).frozen 1
     refine last_store (off := 1) (v := .slice (some ⟨gr, 0, none⟩) ((j + 1)) cr) O 1 rfl rfl (by simp [go_sem, ↓IntWalk.iteOmega, ev e29, ev e31, q0, q1]) ?_
     clear q0 q1; clear O; intro w25 O; replace O : OwnT _ _ (_ :: (tBlk p 114 #[.pointer (some ⟨mb, 0, none⟩), .slice (some ⟨gr, 0, none⟩) ((j + 1)) cr, .map (some bm)]) :: _) w25 := O
     replace e1 := hE.g e1; replace e5 := hE.g e5; replace k := k.env hE; clear hE e20 e29 e31; refine Z00 ?_; refine wp_region_lit ?_
     have hE := Env.refl a23 [32, 33, 1]; refine sd 32 hE k (Z02 rfl e1) ?_; intro a26 hE e32 kp; replace e1 := kt kp e1; refine sd 33 hE k (Z6f (l := l.drop (16 * j)) Tryz.underlying9 rfl e32 rfl 16 rfl (by omega)) ?_
     intro a27 hE e33 kp; replace e1 := kt kp e1; refine sd 1 hE k (Z01 rfl e33) ?_; intro a28 hE e1 kp; refine wpList_nil ?_; replace e5 := hE.g e5; replace k := k.env hE; clear hE; refine Z0f ?_; refine Z00 ?_; rw [List.drop_drop, show 16 * j + 16 = 16 * (j + 1) by omega] at e1
     refine ⟨⟨k, e5, j + 1, some ⟨gr, 0, none⟩, cr, e1, by omega, by omega, (by rw [secsL_succ, strsV_app]; exact O)⟩, ?_⟩
     rw [e1, m1]; simp only [strLen, Z1q, List.length_drop]; omega
   · skip
     refine wp_seq ?_; refine wp_seq ?_; refine wp_region_lit ?_
     have hE := Env.refl a10 [10, 11, 12, 13, 14, 15, 16, 17, 18, 19, 20]; refine zm 10 hE k e1 ?_; intro a29 hE e10 kp; refine sd 11 hE k (Z4r Tryz.underlying9 rfl e10) ?_; intro a30 hE e11 kp; refine sd 12 hE k (Z08 (Z1l rfl e11 rfl) (decide_eq_true (by omega))) ?_
     intro a31 hE e12 kp; refine sd 13 hE k (Z02 rfl e12) ?_; intro a32 hE e13 kp; apply Z04 14 hE k rfl rfl rfl rfl rfl e13
     case h =>
      exact Z02 rfl (hE.g e5)
     intro a33 hE e14 kp; replace e13 := kt kp e13; apply Z04 15 hE k rfl rfl rfl rfl rfl e13
     case h =>
      exact Z0d rfl e14
     intro a34 hE e15 kp; replace e13 := kt kp e13; apply Z04 16 hE k rfl rfl rfl rfl rfl e13
     case h =>
      simp [go_sem, ↓IntWalk.iteOmega, ev e15]
      with_reducible rfl
     intro a35 hE e16 kp; replace e13 := kt kp e13; apply Z04 17 hE k rfl rfl rfl rfl rfl e13
     case h =>
      exact Z0a O 1 rfl rfl e16 rfl Tryz.underlying111 rfl
     intro a36 hE e17 kp; replace e13 := kt kp e13; apply Z04 18 hE k rfl rfl rfl rfl rfl e13
     case h =>
      exact Z1w Tryz.underlying111 rfl e17
     intro a37 hE e18 kp; replace e13 := kt kp e13; apply Z04 19 hE k rfl rfl rfl rfl rfl e13
     case h =>
      exact Z08 (Z0z rfl e18 rfl) (decide_eq_false (by omega))
     intro a38 hE e19 kp; replace e13 := kt kp e13; refine sd 20 hE k (Z0b rfl e13 e19) ?_; intro a39 hE e20 kp; refine wpList_nil ?_; replace e1 := hE.g e1; replace e5 := hE.g e5; replace k := k.env hE; clear hE; refine Z00 ?_; refine Z07 e20 rfl ?_
     refine wp_exit ?_
     refine Z0p ?_
     refine Z0p ?_
     refine Z11 ?_
     refine Z00 (wp_seq ?_); refine wp_region_lit ?_
     have hE := Env.refl a39 [34, 4]; refine zm 34 hE k e5 ?_; intro a40 hE e34 kp; refine sd 4 hE k (Z01 rfl e34) ?_; intro a41 hE e4 kp; refine wpList_nil ?_; replace k := k.env hE; clear hE e1 e5 e20; refine Z00 ?_; refine wp_ret ?_
     have hmin : min (l.length / 16) 16384 = j := by omega
     rw [hmin]
     refine Z0k rfl k e4 ?_
     exact ⟨p, B, cap, bm, rfl, (O.perm (.swap _ _ _)).closeD (dok_secs hj hj2)⟩
 · skip
   refine wp_seq ?_; refine wp_seq ?_; refine wp_region_lit ?_
   have hE := Env.refl a10 [10, 11, 12, 13, 14, 15, 16, 17, 18, 19, 20]; refine zm 10 hE k e1 ?_; intro a42 hE e10 kp; refine sd 11 hE k (Z4r Tryz.underlying9 rfl e10) ?_; intro a43 hE e11 kp; refine sd 12 hE k (Z08 (Z1l rfl e11 rfl) (decide_eq_false (by omega))) ?_
   intro a44 hE e12 kp; refine sd 13 hE k (Z02 rfl e12) ?_; intro a45 hE e13 kp; refine Z05 14 hE k rfl (by rfl) (by rfl) rfl rfl (.inl e13) ?_
   intro a46 hE e14 kp; replace e13 := kt kp e13; refine Z05 15 hE k rfl (by rfl) (by rfl) rfl rfl (.inl e13) ?_
   intro a47 hE e15 kp; replace e13 := kt kp e13; refine Z05 16 hE k rfl (by rfl) (by rfl) rfl rfl (.inl e13) ?_
   intro a48 hE e16 kp; replace e13 := kt kp e13; refine Z05 17 hE k rfl (by rfl) (by rfl) rfl rfl (.inl e13) ?_
   intro a49 hE e17 kp; replace e13 := kt kp e13; refine Z05 18 hE k rfl (by rfl) (by rfl) rfl rfl (.inl e13) ?_
   intro a50 hE e18 kp; replace e13 := kt kp e13; refine Z05 19 hE k rfl (by rfl) (by rfl) rfl rfl (.inl e13) ?_
   intro a51 hE e19 kp; replace e13 := kt kp e13; refine sd 20 hE k (Z09 rfl e13 rfl) ?_; intro a52 hE e20 kp; refine wpList_nil ?_; replace e1 := hE.g e1; replace e5 := hE.g e5; replace k := k.env hE; clear hE; refine Z00 ?_; refine Z07 e20 rfl ?_
   refine wp_exit ?_
   refine Z0p ?_
   refine Z0p ?_
   refine Z11 ?_
   refine Z00 (wp_seq ?_); refine wp_region_lit ?_
   have hE := Env.refl a52 [34, 4]; refine zm 34 hE k e5 ?_; intro a53 hE e34 kp; refine sd 4 hE k (Z01 rfl e34) ?_; intro a54 hE e4 kp; refine wpList_nil ?_; replace k := k.env hE; clear hE e1 e5 e20; refine Z00 ?_; refine wp_ret ?_
   have hmin : min (l.length / 16) 16384 = j := by omega
   rw [hmin]
   refine Z0k rfl k e4 ?_
   exact ⟨p, B, cap, bm, rfl, (O.perm (.swap _ _ _)).closeD (dok_secs hj hj2)⟩
set_option maxRecDepth 100000 in
set_option maxHeartbeats 4000000 in
theorem dnew_any {H : Nat} {A0 : World} {R : List Thing} {mb : Nat} (x : Int) (n : Nat) (w : World) (O : OwnT H A0 R w) (hx : min (max x 0) 16384 = (n : Int)) : Calls Tryz.prog 10 #[.pointer (some ⟨mb, 0, none⟩), .int .i64 x] w fun e w' => ∃ p B cap bm, e = .returned (.pointer (some ⟨p, 0, none⟩)) ∧ OwnT H A0 (tDisc p mb B n cap bm (List.replicate n zsec) (fun _ => none) :: R) w' := by
 have hR := Tryz.strings_Repeat (sB [0]) (16 * n)
 have hn : n ≤ 16384 := by omega
 refine Z0c Tryz.func10 rfl 12 rfl (by rfl) ?_
 intro a1 k hargs; have e0 : a1.eval (.tmp 0) = .pointer (some ⟨mb, 0, none⟩) := hargs 0 _ rfl
 have e1 : a1.eval (.tmp 1) = .int .i64 x := hargs 1 _ rfl
 clear hargs; refine wp_seq ?_; refine wp_region_lit ?_
 have hE := Env.refl a1 [4]; refine sd 4 hE k (Z01 rfl rfl) ?_; intro a2 hE e4 kp; refine wpList_nil ?_; replace e0 := hE.g e0; replace e1 := hE.g e1; replace k := k.env hE; clear hE e4; refine Z00 (wp_seq ?_); refine wp_region_lit ?_
 have hE := Env.refl a2 [5, 6, 7, 8, 9, 10, 11, 4]; refine zm 5 hE k e0 ?_; intro a3 hE e5 kp; refine zm 6 hE k e1 ?_; intro a4 hE e6 kp; replace e5 := kt kp e5; refine sd 7 hE k (x_max rfl e6 rfl) ?_; intro a5 hE e7 kp; replace e5 := kt kp e5; refine sd 8 hE k (x_min rfl e7 rfl) ?_; intro a6 hE e8 kp; replace e5 := kt kp e5; replace e8 := e8.trans (Z10 hx)
 refine sd 9 hE k (x_mul rfl e8 rfl (by omega)) ?_; intro a7 hE e9 kp; replace e5 := kt kp e5; replace e9 := e9.trans (Z10 (show (n : Int) * 16 = ((16 * n : Nat) : Int) by omega))
 apply Z06 10 hE k rfl (by rfl) (by rfl) rfl
 case h =>
  simp [go_sem, ↓IntWalk.iteOmega, ev e9]
  with_reducible exact ⟨rfl, rfl⟩
 case hc => exact hR w (by omega) (by rw [Z1q]; simp only [List.length_cons, List.length_nil]; omega)
 rintro e w9 ⟨rfl, R⟩
 replace O := OwnT.ext O R; refine ⟨_, by rw [Z6o, rep_zero], ?_⟩
 intro a8 hE e10 kp; replace e5 := kt kp e5; apply Z06 11 hE k rfl (by rfl) (by rfl) rfl
 case h =>
  simp [go_sem, ↓IntWalk.iteOmega, ev e5, ev e10]
  with_reducible exact ⟨rfl, rfl⟩
 case hc => exact dof_any _ _ O (by rw [List.length_replicate]; omega)
 clear O; rintro e w11 ⟨p, B, cap, bm, rfl, O⟩
 refine ⟨_, rfl, ?_⟩
 intro a10 hE e11 kp; refine sd 4 hE k (Z01 rfl e11) ?_; intro a12 hE e4 kp; refine wpList_nil ?_; replace k := k.env hE; clear hE e0 e1; refine Z00 ?_; refine wp_ret ?_
 rw [List.length_replicate, show min (16 * n / 16) 16384 = n by omega, secsL_zero n n (Nat.le_refl _)] at O
 refine Z0k rfl k e4 ?_
 exact ⟨p, B, cap, bm, rfl, O⟩
end Go.Proofs.YtakkhglbdljfiaaGreatDoor

/- disc: power that stays; writes that are all done. -/
namespace Go.Proofs.YtakkhglbdljfiaaGreatDoor
set_option linter.unusedVariables false
set_option linter.unusedSimpArgs false
open Go.RowKit Go.Maps

/-- Power that is there, without a fuse. -/
structure Mn.Free (M : Mn) : Prop where
  away : M.away = false
  fuse : M.fuse = -1
theorem mn0_free : mn0.Free := ⟨rfl, rfl⟩
section
variable {M : Mn} {H : Nat} {A0 : World} {R : List Thing} {p mb n cap bm : Nat} {B : Option Addr} {S : List Sec} {L : Int → Option Sec} {c : Int}
theorem Mn.Free.up (h : M.Free) : M.up = true := by unfold Mn.up; rw [h.away, h.fuse]; rfl
theorem Mn.Free.use (h : M.Free) : M.use.Free := by
  unfold Mn.use
  rw [h.up]
  exact ⟨rfl, by show max (M.fuse - 1) (-1) = -1; rw [h.fuse]; decide⟩
theorem Mn.Free.useN (h : M.Free) : ∀ j, (M.useN j).Free
  | 0 => h
  | j + 1 => (h.useN j).use
theorem Mn.Free.come (h : M.cut.away = true) : M.cut.come.Free := by unfold Mn.come; rw [if_pos h]; exact ⟨rfl, rfl⟩
end
end Go.Proofs.YtakkhglbdljfiaaGreatDoor

/- leaf: pairs, rise. -/
namespace Go.Proofs.YtakkhglbdljfiaaGreatDoor
attribute [local simp] BigFrame.eval_const BigFrame.eval_global BigFrame.eval_func
set_option linter.unusedVariables false
set_option linter.unusedSimpArgs false
open Go.RowKit

def pairC (x : Nat × Nat) : List Value := [.int .u64 x.1, .int .u64 x.2]
def keyAt (xs : List (Nat × Nat)) (i : Nat) : Nat := (xs.getD i (0, 0)).1
def riseB (xs : List (Nat × Nat)) : Bool := decide (∀ i, i < xs.length → i + 1 < xs.length → keyAt xs i < keyAt xs (i + 1))
theorem Row.pair_in {w w' : World} {A : Option Addr} {xs : List (Nat × Nat)} (h : Row w A 2 pairC xs) (hb : Below w.heap.size w w') {j : Nat} (hj : j < xs.length) :
    ∃ b o, A = some ⟨b, o, none⟩ ∧ b < w.heap.size ∧ w'.cell? ⟨b, o + j * 2, none⟩ = some (.int .u64 xs[j].1) ∧ w'.cell? ⟨b, o + j * 2 + 1, none⟩ = some (.int .u64 xs[j].2) := by
  obtain ⟨b, o, hA, hlt, hc⟩ := h.in_ hb hj
  exact ⟨b, o, hA, hlt, hc 0 _ rfl, hc 1 _ rfl⟩
theorem Row.key_at {w w' : World} {b o : Nat} {xs : List (Nat × Nat)} (h : Row w (some ⟨b, o, none⟩) 2 pairC xs) (hb : Below w.heap.size w w') {j : Nat} (hj : j < xs.length) : w'.cell? ⟨b, o + j * 2, none⟩ = some (.int .u64 (keyAt xs j)) := by
  obtain ⟨b', o', he, _, hc, _⟩ := h.pair_in hb hj
  cases he
  rw [hc]
  simp [keyAt, List.getD, hj]

set_option maxHeartbeats 1000000 in
theorem rise_any (A : Option Addr) (len cap : Nat) (xs : List (Nat × Nat)) (w : World) (hlen : xs.length = len) (hm : len ≤ 1000000) (hrow : Row w A 2 pairC xs) (hx : ∀ x ∈ xs, x.1 < 18446744073709551616) :
    Calls Tryz.prog 87 #[.slice A len cap] w fun e w' => e = .returned (.bool (riseB xs)) ∧ Ext w w' := by
  have hk : ∀ j, keyAt xs j < 18446744073709551616 := by
    intro j
    unfold keyAt
    by_cases hj : j < xs.length
    · have := hx _ (List.getElem_mem hj); simpa [List.getD, hj] using this
    · simp [List.getD, hj]
  have HK := Lib.hid hk
  clear hk hx
  go_enter Tryz.func87, Tryz.ntmps87
  go_wp2_with fail
  go_loopw [3] (fun i wr => ∃ j : Nat, i = .int .i64 ((j + 1 : Nat) : Int) ∧ (j + 1 ≤ len ∨ j = 0) ∧ Ext w wr ∧ Hid (∀ i, i < j → i + 1 < xs.length → keyAt xs i < keyAt xs (i + 1))) (fun i _ => len - (intOf i).toNat)
  case atStart => exact ⟨0, rfl, .inr rfl, Ext.refl _, fun i hi => absurd hi (by omega)⟩
  case round =>
    obtain ⟨j, rfl, hj, hEx, HJ⟩ := hrel
    by_cases hlt : j + 1 < len
    · obtain ⟨b0, o0, rfl, hlt0, -, -⟩ := hrow.pair_in hEx (show j < xs.length by omega)
      have HQ := Lib.hid (fun (W : World) (h : Ext wr W) => And.intro (hrow.key_at (hEx.trans h) (show j < xs.length by omega)) (hrow.key_at (hEx.trans h) (show j + 1 < xs.length by omega)))
      have h1 := HK.out j
      have h2 := HK.out (j + 1)
      have HJ1 := Lib.hid (show ∀ i, i < j + 1 → i + 1 < xs.length → (keyAt xs j < keyAt xs (j + 1)) → keyAt xs i < keyAt xs (i + 1) from fun i hi hl hh => by
        by_cases e : i = j
        · subst e; exact hh
        · exact HJ.out i (by omega) hl)
      have HN := Lib.hid (show ¬ keyAt xs j < keyAt xs (j + 1) → riseB xs = false from fun hh => by
        unfold riseB
        rw [decide_eq_false_iff_not]
        exact fun h => hh (h j (by omega) (by omega)))
      generalize keyAt xs j = k0 at HQ h1 HJ1 HN
      generalize keyAt xs (j + 1) = k1 at HQ h2 HJ1 HN
      have hsub : IntKind.i64.wrap (((j + 1 : Nat) : Int) - 1) = (j : Int) := by rw [IntWalk.i64_in _ (by omega)]; omega
      have hsub2 : IntKind.i64.wrap (j : Int) = (j : Int) := IntWalk.i64_in _ (by omega)
      go_upto_region 4 with fail
      refine Z0l (R := Ext) (w0 := wr) [[], [], [1], [0, 1, 2], [0, 1, 2, 3], [0, 1, 2, 3, 4], [], [], [6, 7], [6, 7, 8], [6, 7, 8, 9], [0, 1, 2, 3, 4, 5, 6, 7, 8, 9, 10]] [10, 11, 12, 13, 14, 15, 16, 17, 18, 19, 20, 21] Ext.refl (fun _ _ _ => Ext.trans) (Ext.drew _) (by kernel_rfl) ?_
      apply Build.det 10 Ext.refl (by rfl) (by rfl) rfl
      case h =>
        intro ax wx hE hR hF
        have e0 : ax.eval (.tmp 0) = .slice (some ⟨b0, o0, none⟩) len cap := hE.eval 0 (by rfl) rfl
        simp [go_sem, ↓IntWalk.iteOmega, ev e0, hsub, hsub2]
        with_reducible rfl
      apply Build.det 11 Ext.refl (by rfl) (by rfl) rfl
      case h =>
        intro ax wx hE hR hF
        have e3 : ax.eval (.tmp 3) = .int .i64 ((j + 1 : Nat) : Int) := hE.eval 3 (by rfl) rfl
        simp [go_sem, ↓IntWalk.iteOmega, ev e3, hsub, hsub2]
        with_reducible rfl
      apply Build.det 12 Ext.refl (by rfl) (by rfl) rfl
      case h =>
        intro ax wx hE hR hF
        have e11 := hF 1 (det 11 _) (by decide) (.head _)
        simp [go_sem, ↓IntWalk.iteOmega, ev e11, hsub, hsub2]
        with_reducible rfl
      apply Build.det 13 Ext.refl (by rfl) (by rfl) rfl
      case h =>
        intro ax wx hE hR hF
        have e10 := hF 0 (det 10 _) (by decide) (.tail _ (.tail _ (.head _)))
        have e12 := hF 2 (det 12 _) (by decide) (.head _)
        simp [go_sem, ↓IntWalk.iteOmega, ev e10, ev e12, hsub, hsub2]
        with_reducible rfl
      apply Build.det 14 Ext.refl (by rfl) (by rfl) rfl
      case h =>
        intro ax wx hE hR hF
        have e13 := hF 3 (det 13 _) (by decide) (.head _)
        simp [go_sem, ↓IntWalk.iteOmega, ev e13, hsub, hsub2]
        with_reducible rfl
      apply Build.det 15 Ext.refl (by rfl) (by rfl) rfl
      case h =>
        intro ax wx hE hR hF
        have e14 := hF 4 (det 14 _) (by decide) (.head _)
        have q0 := (HQ.out _ hR).1; have q1 := (HQ.out _ hR).2
        simp [go_sem, ↓IntWalk.iteOmega, ev e14, hsub, hsub2, q0, q1]
        with_reducible rfl
      apply Build.det 16 Ext.refl (by rfl) (by rfl) rfl
      case h =>
        intro ax wx hE hR hF
        have e0 : ax.eval (.tmp 0) = .slice (some ⟨b0, o0, none⟩) len cap := hE.eval 0 (by rfl) rfl
        simp [go_sem, ↓IntWalk.iteOmega, ev e0, hsub, hsub2]
        with_reducible rfl
      apply Build.det 17 Ext.refl (by rfl) (by rfl) rfl
      case h =>
        intro ax wx hE hR hF
        have e3 : ax.eval (.tmp 3) = .int .i64 ((j + 1 : Nat) : Int) := hE.eval 3 (by rfl) rfl
        simp [go_sem, ↓IntWalk.iteOmega, ev e3, hsub, hsub2]
        with_reducible rfl
      apply Build.det 18 Ext.refl (by rfl) (by rfl) rfl
      case h =>
        intro ax wx hE hR hF
        have e16 := hF 6 (det 16 _) (by decide) (.tail _ (.head _))
        have e17 := hF 7 (det 17 _) (by decide) (.head _)
        simp [go_sem, ↓IntWalk.iteOmega, ev e16, ev e17, hsub, hsub2]
        with_reducible rfl
      apply Build.det 19 Ext.refl (by rfl) (by rfl) rfl
      case h =>
        intro ax wx hE hR hF
        have e18 := hF 8 (det 18 _) (by decide) (.head _)
        simp [go_sem, ↓IntWalk.iteOmega, ev e18, hsub, hsub2]
        with_reducible rfl
      apply Build.det 20 Ext.refl (by rfl) (by rfl) rfl
      case h =>
        intro ax wx hE hR hF
        have e19 := hF 9 (det 19 _) (by decide) (.head _)
        have q0 := (HQ.out _ hR).1; have q1 := (HQ.out _ hR).2
        simp [go_sem, ↓IntWalk.iteOmega, ev e19, hsub, hsub2, q0, q1]
        with_reducible rfl
      apply Build.det 21 Ext.refl (by rfl) (by rfl) rfl
      case h =>
        intro ax wx hE hR hF
        have e15 := hF 5 (det 15 _) (by decide) (.tail _ (.tail _ (.tail _ (.tail _ (.tail _ (.head _))))))
        have e20 := hF 10 (det 20 _) (by decide) (.head _)
        simp [go_sem, ↓IntWalk.iteOmega, ev e15, ev e20, hsub, hsub2]
        with_reducible rfl
      apply Build.stop
      refine ⟨by kernel_rfl, .inl ⟨rfl, ?_⟩⟩
      intro ax w2 hE R2 hF
      have e10 := hF 0 (det 10 _) (.tail _ (.tail _ (.tail _ (.tail _ (.tail _ (.tail _ (.tail _ (.tail _ (.tail _ (.tail _ (.tail _ (.head _))))))))))))
      have e11 := hF 1 (det 11 _) (.tail _ (.tail _ (.tail _ (.tail _ (.tail _ (.tail _ (.tail _ (.tail _ (.tail _ (.tail _ (.head _)))))))))))
      have e12 := hF 2 (det 12 _) (.tail _ (.tail _ (.tail _ (.tail _ (.tail _ (.tail _ (.tail _ (.tail _ (.tail _ (.head _))))))))))
      have e13 := hF 3 (det 13 _) (.tail _ (.tail _ (.tail _ (.tail _ (.tail _ (.tail _ (.tail _ (.tail _ (.head _)))))))))
      have e14 := hF 4 (det 14 _) (.tail _ (.tail _ (.tail _ (.tail _ (.tail _ (.tail _ (.tail _ (.head _))))))))
      have e15 := hF 5 (det 15 _) (.tail _ (.tail _ (.tail _ (.tail _ (.tail _ (.tail _ (.head _)))))))
      have e16 := hF 6 (det 16 _) (.tail _ (.tail _ (.tail _ (.tail _ (.tail _ (.head _))))))
      have e17 := hF 7 (det 17 _) (.tail _ (.tail _ (.tail _ (.tail _ (.head _)))))
      have e18 := hF 8 (det 18 _) (.tail _ (.tail _ (.tail _ (.head _))))
      have e19 := hF 9 (det 19 _) (.tail _ (.tail _ (.head _)))
      have e20 := hF 10 (det 20 _) (.tail _ (.head _))
      have e21 := hF 11 (det 21 _) (.head _)
      rw [AllEq.frame (D := [10, 11, 12, 13, 14, 15, 16, 17, 18, 19, 20, 21]) (AllEq.cons e10 (AllEq.cons e11 (AllEq.cons e12 (AllEq.cons e13 (AllEq.cons e14 (AllEq.cons e15 (AllEq.cons e16 (AllEq.cons e17 (AllEq.cons e18 (AllEq.cons e19 (AllEq.cons e20 (AllEq.cons e21 (AllEq.nil))))))))))))) hE rfl]
      clear hF hE e10 e11 e12 e13 e14 e15 e16 e17 e18 e19 e20 e21
      simp only [List.foldl_cons, List.foldl_nil, Act.put, List.setIfInBounds_toArray, List.set_cons_succ, List.set_cons_zero]

      have hE := hEx.trans R2
      by_cases hh : k0 < k1
      · have hd : decide (k1 ≤ k0) = false := by rw [decide_eq_false_iff_not]; omega
        have hd2 : decide ((k1 : Int) ≤ (k0 : Int)) = false := by rw [decide_eq_false_iff_not]; omega
        go_wp2_with fail
        go_roundw
        case rel => exact ⟨j + 1, by go_num, .inl (by omega), hE, fun i hi hl => HJ1.out i hi hl hh⟩
        case measure => simp [intOf]; omega
      · have hd : decide (k1 ≤ k0) = true := by rw [decide_eq_true_iff]; omega
        have hd2 : decide ((k1 : Int) ≤ (k0 : Int)) = true := by rw [decide_eq_true_iff]; omega
        go_wp2_with fail
        go_ret
        exact ⟨Z13 (HN.out hh).symm, hE⟩
    · have HR : Hid (riseB xs = true) := by
        show riseB xs = true
        unfold riseB
        rw [decide_eq_true_iff]
        exact fun i hi hl => HJ.out i (by omega) hl
      go_wp2_with fail
      go_ret
      exact ⟨Z13 HR.out.symm, hEx⟩
end Go.Proofs.YtakkhglbdljfiaaGreatDoor

/- leaf: Find, Child. -/
namespace Go.Proofs.YtakkhglbdljfiaaGreatDoor
set_option linter.unusedVariables false
set_option linter.unusedSimpArgs false
open Go.RowKit

theorem Row.ext {E : Type} {w w' : World} {A : Option Addr} {c : Nat} {enc : E → List Value} {xs : List E} (h : Row w A c enc xs) (hb : Ext w w') : Row w' A c enc xs := h.below hb
/-- The place that a key has. -/
structure Place (xs : List (Nat × Nat)) (key n : Nat) : Prop where
  le : n ≤ xs.length
  below : ∀ i, i < n → keyAt xs i < key
  above : ∀ i, n ≤ i → i < xs.length → key ≤ keyAt xs i

end Go.Proofs.YtakkhglbdljfiaaGreatDoor
