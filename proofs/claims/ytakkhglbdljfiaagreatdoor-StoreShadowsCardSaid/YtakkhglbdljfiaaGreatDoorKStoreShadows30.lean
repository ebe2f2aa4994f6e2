/- slices of ints: Index, Contains, IndexFunc, ContainsFunc (printed by XCfI.gen.py). -/
import Derived.Test.YtakkhglbdljfiaaGreatDoorKStoreShadows29
namespace Go.Proofs.YtakkhglbdljfiaaGreatDoor
attribute [local simp] BigFrame.eval_const BigFrame.eval_global BigFrame.eval_func
set_option linter.unusedVariables false
set_option linter.unusedSimpArgs false
open Go.RowKit

theorem Z5u {w : World} {A : Option Addr} {xs : List Int} (h : Row1 w A (Value.int .i64) xs) {i : Nat} {x : Int} (hx : xs[i]? = some x) : ∃ b o, A = some ⟨b, o, none⟩ ∧ ∀ w', Below w.heap.size w w' → w'.cell? ⟨b, o + i, none⟩ = some (.int .i64 x) := by
 obtain ⟨b, o, e, hlt, hc⟩ := h i x hx
 exact ⟨b, o, e, fun w' hb => (hb.cell (p := ⟨b, _, none⟩) hlt).trans hc⟩
theorem x_callI {o : Oper} {ρ : Operand → Value} {x y : Operand} {t : TypeId} {f : FuncId} {lb : Array Value} {u : Value} {w : World} (ho : o.op = .call { callee := .value x, args := #[y], argTypes := #[t] }) (hx : ρ x = .func (.func f) #[] lb) (hy : ρ y = u) (h : (callFunc f (#[u] ++ lb)).run Tryz.prog w = .ok (.enter f (#[u] ++ lb)) w) : (execOp ρ o).run Tryz.prog w = .ok (.enter f (#[u] ++ lb)) w := by
 unfold execOp
 simp only [ho, resolve, hx, Sem.run_bind, Sem.run_pure, Result.andThen_ok, List.map_toArray, List.map_cons, List.map_nil, hy]
 simpa [invoke, go_sem] using h

set_option maxRecDepth 100000 in
set_option maxHeartbeats 4000000 in
theorem idxI_any {A : Option Addr} {ca : Nat} {xs : List Int} (y : Int) (W0 : World) (hrow : Row1 W0 A (Value.int .i64) xs) (hn : xs.length ≤ 1000000000) : Calls Tryz.prog 90 #[.slice A xs.length ca, .int .i64 y] W0 fun e w' => ∃ r : Int, e = .returned (.int .i64 r) ∧ decide (0 ≤ r) = decide (y ∈ xs) ∧ Ext W0 w' := by
 have O := OwnT.start W0
 refine Z0c Tryz.func90 rfl 19 rfl (by rfl) ?_
 intro a1 k hargs
 have e0 : a1.eval (.tmp 0) = .slice A xs.length ca := hargs 0 _ rfl
 have e1 : a1.eval (.tmp 1) = .int .i64 y := hargs 1 _ rfl
 clear hargs
 refine wp_seq ?_
 refine wp_region_lit ?_
 have hE := Env.refl a1 [4]
 refine sd 4 hE k (Z01 rfl rfl) ?_
 intro a2 hE e4 kp
 refine wpList_nil ?_
 replace e0 := hE.g e0; replace e1 := hE.g e1
 replace k := k.env hE
 clear hE e4
 refine Z00 (wp_seq ?_)
 refine wp_seq ?_
 refine wp_region_lit ?_
 have hE := Env.refl a2 [6, 7, 8]
 refine zm 6 hE k e0 ?_
 intro a3 hE e6 kp
 refine sd 7 hE k (Z2r Tryz.underlying40 rfl e6) ?_
 intro a4 hE e7 kp
 refine sd 8 hE k (Z03 rfl rfl) ?_
 intro a5 hE e8 kp
 replace e7 := kt kp e7
 refine wpList_nil ?_
 replace e0 := hE.g e0; replace e1 := hE.g e1
 replace k := k.env hE
 clear hE
 refine Z00 ?_
 refine wp_block ?_
 refine wp_loop (fun a w => Fr 19 a ∧ a.eval (.tmp 0) = .slice A xs.length ca ∧ a.eval (.tmp 1) = .int .i64 y ∧ a.eval (.tmp 7) = .int .i64 ↑xs.length ∧ ∃ z : Nat, a.eval (.tmp 8) = .int .i64 ↑z ∧ z ≤ xs.length ∧ (∀ v ∈ xs.take z, ¬ y = v) ∧ OwnT W0.heap.size W0 [] w) (fun a w => xs.length - (intOf (a.eval (.tmp 8))).toNat) ?_ ?_
 · exact ⟨k, e0, e1, e7, 0, e8, Nat.zero_le _, (fun y h => by simp at h), O⟩
 intro a6 w7 hI
 clear k e0 e1 e7
 obtain ⟨k, e0, e1, e7, h_⟩ := hI
 clear O e8
 obtain ⟨z, e8, hz, hall, O⟩ := h_
 have mz := e8
 by_cases hlt : z < xs.length
 · skip
   have hzI : (z : Int) < (xs.length : Int) := by omega
   obtain ⟨v, hv⟩ : ∃ v, xs[z]? = some v := ⟨_, List.getElem?_eq_getElem hlt⟩
   obtain ⟨b, o, hA, hc⟩ := Z5u hrow hv
   subst hA

   refine wp_seq ?_
   refine wp_region_lit ?_
   have hE := Env.refl a6 [9]
   refine sd 9 hE k (Z08 (Z1j rfl (hE.g e8) (hE.g e7)) (decide_eq_true (by omega))) ?_
   intro a8 hE e9 kp
   refine wpList_nil ?_
   replace e0 := hE.g e0; replace e1 := hE.g e1; replace e7 := hE.g e7; replace e8 := hE.g e8
   replace k := k.env hE
   clear hE
   refine Z00 (wp_seq ?_)
   refine Z0l e9 rfl ?_
   refine wp_skip ?_
   refine Z00 (wp_seq ?_)
   refine wp_block ?_
   refine wp_seq ?_
   refine wp_region_lit ?_
   have hE := Env.refl a8 [10, 5]
   refine zm 10 hE k e8 ?_
   intro a9 hE e10 kp
   refine sd 5 hE k (Z01 rfl e10) ?_
   intro a10 hE e5 kp
   refine wpList_nil ?_
   replace e0 := hE.g e0; replace e1 := hE.g e1; replace e7 := hE.g e7; replace e8 := hE.g e8
   replace k := k.env hE
   clear hE e9
   refine Z00 ?_
   by_cases hyv : y = v
   · skip
     refine wp_seq ?_
     refine wp_region_lit ?_
     have hE := Env.refl a10 [11, 12, 13, 14, 15, 16]
     refine zm 11 hE k e1 ?_
     intro a11 hE e11 kp
     refine zm 12 hE k e0 ?_
     intro a12 hE e12 kp
     replace e11 := kt kp e11
     refine zm 13 hE k e5 ?_
     intro a13 hE e13 kp
     replace e11 := kt kp e11; replace e12 := kt kp e12
     apply Z02 14 hE k rfl rfl rfl rfl
     case h =>
      simp [go_sem, ↓IntWalk.iteOmega, ev e12, ev e13]
      with_reducible rfl
     intro a14 hE e14 kp
     replace e11 := kt kp e11
     apply Z02 15 hE k rfl rfl rfl rfl
     case h =>
      simp [go_sem, ↓IntWalk.iteOmega, ev e14, hc _ O.below]
      with_reducible rfl
     intro a15 hE e15 kp
     replace e11 := kt kp e11
     refine sd 16 hE k (Z08 (Z28 rfl e11 e15) (decide_eq_true (by omega))) ?_
     intro a16 hE e16 kp
     refine wpList_nil ?_
     replace e0 := hE.g e0; replace e1 := hE.g e1; replace e5 := hE.g e5; replace e7 := hE.g e7; replace e8 := hE.g e8
     replace k := k.env hE
     clear hE
     refine Z00 ?_
     refine Z0l e16 rfl ?_
     refine wp_seq ?_
     refine wp_region_lit ?_
     have hE := Env.refl a16 [17, 4]
     refine zm 17 hE k e5 ?_
     intro a17 hE e17 kp
     refine sd 4 hE k (Z01 rfl e17) ?_
     intro a18 hE e4 kp
     refine wpList_nil ?_
     replace k := k.env hE
     clear hE e0 e1 e5 e7 e8 e16
     refine Z00 ?_
     refine wp_ret ?_
     refine Z1w ?_
     refine Z0u ?_
     refine Z0u ?_
     refine Z1w ?_
     refine Z0u ?_
     refine Z0i rfl k e4 ?_
     exact ⟨_, rfl, by rw [decide_eq_true (by omega)]; exact (decide_eq_true (hyv ▸ List.mem_of_getElem? hv)).symm, O.below⟩
   · skip
     refine wp_seq ?_
     refine wp_region_lit ?_
     have hE := Env.refl a10 [11, 12, 13, 14, 15, 16]
     refine zm 11 hE k e1 ?_
     intro a19 hE e11 kp
     refine zm 12 hE k e0 ?_
     intro a20 hE e12 kp
     replace e11 := kt kp e11
     refine zm 13 hE k e5 ?_
     intro a21 hE e13 kp
     replace e11 := kt kp e11; replace e12 := kt kp e12
     apply Z02 14 hE k rfl rfl rfl rfl
     case h =>
      simp [go_sem, ↓IntWalk.iteOmega, ev e12, ev e13]
      with_reducible rfl
     intro a22 hE e14 kp
     replace e11 := kt kp e11
     apply Z02 15 hE k rfl rfl rfl rfl
     case h =>
      simp [go_sem, ↓IntWalk.iteOmega, ev e14, hc _ O.below]
      with_reducible rfl
     intro a23 hE e15 kp
     replace e11 := kt kp e11
     refine sd 16 hE k (Z08 (Z28 rfl e11 e15) (decide_eq_false (by omega))) ?_
     intro a24 hE e16 kp
     refine wpList_nil ?_
     replace e0 := hE.g e0; replace e1 := hE.g e1; replace e5 := hE.g e5; replace e7 := hE.g e7; replace e8 := hE.g e8
     replace k := k.env hE
     clear hE
     refine Z00 ?_
     refine Z07 e16 rfl ?_
     refine wp_skip ?_
     refine Z0n ?_
     refine Z00 ?_
     refine wp_region_lit ?_
     have hE := Env.refl a24 [18, 8]
     refine sd 18 hE k (Z1v rfl e8 rfl (by omega)) ?_
     intro a25 hE e18 kp
     replace e8 := kt kp e8
     refine sd 8 hE k (Z03 rfl e18) ?_
     intro a26 hE e8 kp
     refine wpList_nil ?_
     replace e0 := hE.g e0; replace e1 := hE.g e1; replace e7 := hE.g e7
     replace k := k.env hE
     clear hE e5 e16
     refine Z00 ?_
     refine ⟨⟨k, e0, e1, e7, z + 1, e8, by omega, fun u hu => ?_, O⟩, ?_⟩
     · rw [List.take_add_one, hv] at hu; rcases List.mem_append.1 hu with hu | hu
       · exact hall u hu
       · simp at hu; rw [hu]; exact hyv
     · rw [e8, mz]; simp only [intOf]; omega
 · skip
   refine wp_seq ?_
   refine wp_region_lit ?_
   have hE := Env.refl a6 [9]
   refine sd 9 hE k (Z08 (Z1j rfl (hE.g e8) (hE.g e7)) (decide_eq_false (by omega))) ?_
   intro a27 hE e9 kp
   refine wpList_nil ?_
   replace e0 := hE.g e0; replace e1 := hE.g e1; replace e7 := hE.g e7; replace e8 := hE.g e8
   replace k := k.env hE
   clear hE
   refine Z00 (wp_seq ?_)
   refine Z07 e9 rfl ?_
   refine wp_exit ?_
   refine Z0p ?_
   refine Z0p ?_
   refine Z0z ?_
   refine Z00 (wp_seq ?_)
   refine wp_region_lit ?_
   have hE := Env.refl a27 [4]
   refine sd 4 hE k (Z01 rfl rfl) ?_
   intro a28 hE e4 kp
   refine wpList_nil ?_
   replace k := k.env hE
   clear hE e0 e1 e7 e8 e9
   refine Z00 ?_
   refine wp_ret ?_
   rw [List.take_of_length_le (by omega)] at hall
   refine Z0i rfl k e4 ?_
   exact ⟨_, rfl, by rw [decide_eq_false (by decide)]; exact (decide_eq_false (fun h => hall y h rfl)).symm, O.below⟩
set_option maxRecDepth 100000 in
set_option maxHeartbeats 4000000 in
theorem Z45 {A : Option Addr} {ca : Nat} {xs : List Int} (y : Int) (W0 : World) (hrow : Row1 W0 A (Value.int .i64) xs) (hn : xs.length ≤ 1000000000) : Calls Tryz.prog 54 #[.slice A xs.length ca, .int .i64 y] W0 fun e w' => e = .returned (.bool (decide (y ∈ xs))) ∧ Ext W0 w' := by
 have O := OwnT.start W0
 refine Z0c Tryz.func54 rfl 9 rfl (by rfl) ?_
 intro a1 k hargs
 have e0 : a1.eval (.tmp 0) = .slice A xs.length ca := hargs 0 _ rfl
 have e1 : a1.eval (.tmp 1) = .int .i64 y := hargs 1 _ rfl
 clear hargs
 refine wp_seq ?_
 refine wp_region_lit ?_
 have hE := Env.refl a1 [4]
 refine sd 4 hE k (Z01 rfl rfl) ?_
 intro a2 hE e4 kp
 refine wpList_nil ?_
 replace e0 := hE.g e0; replace e1 := hE.g e1
 replace k := k.env hE
 clear hE e4
 refine Z00 (wp_seq ?_)
 refine wp_region_lit ?_
 have hE := Env.refl a2 [5, 6, 7, 8, 4]
 refine zm 5 hE k e0 ?_
 intro a3 hE e5 kp
 refine zm 6 hE k e1 ?_
 intro a4 hE e6 kp
 replace e5 := kt kp e5
 apply Z06 7 hE k rfl (by rfl) (by rfl) rfl
 case h =>
  simp [go_sem, ↓IntWalk.iteOmega, ev e5, ev e6]
  with_reducible exact ⟨rfl, rfl⟩
 case hc => exact idxI_any y _ hrow hn
 rintro e w6 ⟨r, rfl, hr, RE⟩
 replace O := OwnT.ext O RE
 refine ⟨_, rfl, ?_⟩
 intro a5 hE e7 kp
 refine sd 8 hE k (Z27 rfl e7 rfl) ?_
 intro a7 hE e8 kp
 refine sd 4 hE k (Z01 rfl e8) ?_
 intro a8 hE e4 kp
 refine wpList_nil ?_
 replace k := k.env hE
 clear hE e0 e1
 refine Z00 ?_
 refine wp_ret ?_
 refine Z0i rfl k e4 ?_
 exact ⟨congrArg (fun b => Ending.returned (.bool b)) hr, O.below⟩
set_option maxRecDepth 100000 in
set_option maxHeartbeats 4000000 in
theorem idxfI_any {A : Option Addr} {ca : Nat} {xs : List Int} {f : Nat} {lb : Array Value} (p : Int → Bool) (W0 : World) (hrow : Row1 W0 A (Value.int .i64) xs) (hn : xs.length ≤ 1000000000) (eg : ∀ args w, (callFunc f args).run Tryz.prog w = .ok (.enter f args) w) (hp : ∀ v ∈ xs, ∀ w, Below W0.heap.size W0 w → Calls Tryz.prog f (#[.int .i64 v] ++ lb) w fun e w' => e = .returned (.bool (p v)) ∧ Ext w w') : Calls Tryz.prog 91 #[.slice A xs.length ca, .func (.func f) #[] lb] W0 fun e w' => ∃ r : Int, e = .returned (.int .i64 r) ∧ decide (0 ≤ r) = xs.any p ∧ Ext W0 w' := by
 have O := OwnT.start W0
 refine Z0c Tryz.func91 rfl 19 rfl (by rfl) ?_
 intro a1 k hargs
 have e0 : a1.eval (.tmp 0) = .slice A xs.length ca := hargs 0 _ rfl
 have e1 : a1.eval (.tmp 1) = .func (.func f) #[] lb := hargs 1 _ rfl
 clear hargs
 refine wp_seq ?_
 refine wp_region_lit ?_
 have hE := Env.refl a1 [4]
 refine sd 4 hE k (Z01 rfl rfl) ?_
 intro a2 hE e4 kp
 refine wpList_nil ?_
 replace e0 := hE.g e0; replace e1 := hE.g e1
 replace k := k.env hE
 clear hE e4
 refine Z00 (wp_seq ?_)
 refine wp_seq ?_
 refine wp_region_lit ?_
 have hE := Env.refl a2 [6, 7, 8]
 refine zm 6 hE k e0 ?_
 intro a3 hE e6 kp
 refine sd 7 hE k (Z2r Tryz.underlying40 rfl e6) ?_
 intro a4 hE e7 kp
 refine sd 8 hE k (Z03 rfl rfl) ?_
 intro a5 hE e8 kp
 replace e7 := kt kp e7
 refine wpList_nil ?_
 replace e0 := hE.g e0; replace e1 := hE.g e1
 replace k := k.env hE
 clear hE
 refine Z00 ?_
 refine wp_block ?_
 refine wp_loop (fun a w => Fr 19 a ∧ a.eval (.tmp 0) = .slice A xs.length ca ∧ a.eval (.tmp 1) = .func (.func f) #[] lb ∧ a.eval (.tmp 7) = .int .i64 ↑xs.length ∧ ∃ z : Nat, a.eval (.tmp 8) = .int .i64 ↑z ∧ z ≤ xs.length ∧ (∀ v ∈ xs.take z, p v = false) ∧ OwnT W0.heap.size W0 [] w) (fun a w => xs.length - (intOf (a.eval (.tmp 8))).toNat) ?_ ?_
 · exact ⟨k, e0, e1, e7, 0, e8, Nat.zero_le _, (fun y h => by simp at h), O⟩
 intro a6 w7 hI
 clear k e0 e1 e7
 obtain ⟨k, e0, e1, e7, h_⟩ := hI
 clear O e8
 obtain ⟨z, e8, hz, hall, O⟩ := h_
 have mz := e8
 by_cases hlt : z < xs.length
 · skip
   have hzI : (z : Int) < (xs.length : Int) := by omega
   obtain ⟨v, hv⟩ : ∃ v, xs[z]? = some v := ⟨_, List.getElem?_eq_getElem hlt⟩
   obtain ⟨b, o, hA, hc⟩ := Z5u hrow hv
   subst hA

   have hcall := hp v (List.mem_of_getElem? hv)
   obtain ⟨bb, hbb⟩ : ∃ b, p v = b := ⟨_, rfl⟩
   refine wp_seq ?_
   refine wp_region_lit ?_
   have hE := Env.refl a6 [9]
   refine sd 9 hE k (Z08 (Z1j rfl (hE.g e8) (hE.g e7)) (decide_eq_true (by omega))) ?_
   intro a8 hE e9 kp
   refine wpList_nil ?_
   replace e0 := hE.g e0; replace e1 := hE.g e1; replace e7 := hE.g e7; replace e8 := hE.g e8
   replace k := k.env hE
   clear hE
   refine Z00 (wp_seq ?_)
   refine Z0l e9 rfl ?_
   refine wp_skip ?_
   refine Z00 (wp_seq ?_)
   refine wp_block ?_
   refine wp_seq ?_
   refine wp_region_lit ?_
   have hE := Env.refl a8 [10, 5]
   refine zm 10 hE k e8 ?_
   intro a9 hE e10 kp
   refine sd 5 hE k (Z01 rfl e10) ?_
   intro a10 hE e5 kp
   refine wpList_nil ?_
   replace e0 := hE.g e0; replace e1 := hE.g e1; replace e7 := hE.g e7; replace e8 := hE.g e8
   replace k := k.env hE
   clear hE e9
   refine Z00 (wp_seq ?_)
   refine wp_region_lit ?_
   have hE := Env.refl a10 [11, 12, 13, 14, 15, 16]
   refine zm 11 hE k e1 ?_
   intro a11 hE e11 kp
   refine zm 12 hE k e0 ?_
   intro a12 hE e12 kp
   replace e11 := kt kp e11
   refine zm 13 hE k e5 ?_
   intro a13 hE e13 kp
   replace e11 := kt kp e11; replace e12 := kt kp e12
   apply Z02 14 hE k rfl rfl rfl rfl
   case h =>
    simp [go_sem, ↓IntWalk.iteOmega, ev e12, ev e13]
    with_reducible rfl
   intro a14 hE e14 kp
   replace e11 := kt kp e11
   apply Z02 15 hE k rfl rfl rfl rfl
   case h =>
    simp [go_sem, ↓IntWalk.iteOmega, ev e14, hc _ O.below]
    with_reducible rfl
   intro a15 hE e15 kp
   replace e11 := kt kp e11
   apply Z06 16 hE k rfl (by rfl) (by rfl) rfl
   case h =>
    exact x_callI rfl e11 e15 (eg _ _)
   case hc => exact hcall _ O.below
   rintro e w17 ⟨he, RE⟩
   replace O := OwnT.ext O RE
   refine ⟨_, he.trans (congrArg (fun b => Ending.returned (.bool b)) hbb), ?_⟩
   intro a16 hE e16 kp
   refine wpList_nil ?_
   replace e0 := hE.g e0; replace e1 := hE.g e1; replace e5 := hE.g e5; replace e7 := hE.g e7; replace e8 := hE.g e8
   replace k := k.env hE
   clear hE
   refine Z00 ?_
   cases bb with
   | true =>
    refine Z0l e16 (rfl) ?_
    clear e0 e1 e7 e8 e16
    refine wp_seq ?_
    refine wp_region_lit ?_
    have hE := Env.refl a16 [17, 4]
    refine zm 17 hE k e5 ?_
    intro a18 hE e17 kp
    refine sd 4 hE k (Z01 rfl e17) ?_
    intro a19 hE e4 kp
    refine wpList_nil ?_
    replace k := k.env hE
    clear hE e5
    refine Z00 ?_
    refine wp_ret ?_
    refine Z1w ?_
    refine Z0u ?_
    refine Z0u ?_
    refine Z1w ?_
    refine Z0u ?_
    refine Z0i rfl k e4 ?_
    exact ⟨_, rfl, by rw [decide_eq_true (by omega)]; exact (List.any_eq_true.2 ⟨v, List.mem_of_getElem? hv, hbb⟩).symm, O.below⟩
   | false =>
    refine Z07 e16 (rfl) ?_
    clear e5 e16
    refine wp_skip ?_
    refine Z0n ?_
    refine Z00 ?_
    refine wp_region_lit ?_
    have hE := Env.refl a16 [18, 8]
    refine sd 18 hE k (Z1v rfl e8 rfl (by omega)) ?_
    intro a20 hE e18 kp
    replace e8 := kt kp e8
    refine sd 8 hE k (Z03 rfl e18) ?_
    intro a21 hE e8 kp
    refine wpList_nil ?_
    replace e0 := hE.g e0; replace e1 := hE.g e1; replace e7 := hE.g e7
    replace k := k.env hE
    clear hE
    refine Z00 ?_
    refine ⟨⟨k, e0, e1, e7, z + 1, e8, by omega, fun u hu => ?_, O⟩, ?_⟩
    · rw [List.take_add_one, hv] at hu; rcases List.mem_append.1 hu with hu | hu
      · exact hall u hu
      · simp at hu; rw [hu]; exact hbb
    · rw [e8, mz]; simp only [intOf]; omega
 · skip
   refine wp_seq ?_
   refine wp_region_lit ?_
   have hE := Env.refl a6 [9]
   refine sd 9 hE k (Z08 (Z1j rfl (hE.g e8) (hE.g e7)) (decide_eq_false (by omega))) ?_
   intro a22 hE e9 kp
   refine wpList_nil ?_
   replace e0 := hE.g e0; replace e1 := hE.g e1; replace e7 := hE.g e7; replace e8 := hE.g e8
   replace k := k.env hE
   clear hE
   refine Z00 (wp_seq ?_)
   refine Z07 e9 rfl ?_
   refine wp_exit ?_
   refine Z0p ?_
   refine Z0p ?_
   refine Z0z ?_
   refine Z00 (wp_seq ?_)
   refine wp_region_lit ?_
   have hE := Env.refl a22 [4]
   refine sd 4 hE k (Z01 rfl rfl) ?_
   intro a23 hE e4 kp
   refine wpList_nil ?_
   replace k := k.env hE
   clear hE e0 e1 e7 e8 e9
   refine Z00 ?_
   refine wp_ret ?_
   rw [List.take_of_length_le (by omega)] at hall
   refine Z0i rfl k e4 ?_
   exact ⟨_, rfl, by rw [decide_eq_false (by decide)]; exact (List.any_eq_false.2 (fun v hv => by rw [hall v hv]; decide)).symm, O.below⟩
set_option maxRecDepth 100000 in
set_option maxHeartbeats 4000000 in
theorem Z6v {A : Option Addr} {ca : Nat} {xs : List Int} {f : Nat} {lb : Array Value} (p : Int → Bool) (W0 : World) (hrow : Row1 W0 A (Value.int .i64) xs) (hn : xs.length ≤ 1000000000) (eg : ∀ args w, (callFunc f args).run Tryz.prog w = .ok (.enter f args) w) (hp : ∀ v ∈ xs, ∀ w, Below W0.heap.size W0 w → Calls Tryz.prog f (#[.int .i64 v] ++ lb) w fun e w' => e = .returned (.bool (p v)) ∧ Ext w w') : Calls Tryz.prog 58 #[.slice A xs.length ca, .func (.func f) #[] lb] W0 fun e w' => e = .returned (.bool (xs.any p)) ∧ Ext W0 w' := by
 have O := OwnT.start W0
 refine Z0c Tryz.func58 rfl 9 rfl (by rfl) ?_
 intro a1 k hargs
 have e0 : a1.eval (.tmp 0) = .slice A xs.length ca := hargs 0 _ rfl
 have e1 : a1.eval (.tmp 1) = .func (.func f) #[] lb := hargs 1 _ rfl
 clear hargs
 refine wp_seq ?_
 refine wp_region_lit ?_
 have hE := Env.refl a1 [4]
 refine sd 4 hE k (Z01 rfl rfl) ?_
 intro a2 hE e4 kp
 refine wpList_nil ?_
 replace e0 := hE.g e0; replace e1 := hE.g e1
 replace k := k.env hE
 clear hE e4
 refine Z00 (wp_seq ?_)
 refine wp_region_lit ?_
 have hE := Env.refl a2 [5, 6, 7, 8, 4]
 refine zm 5 hE k e0 ?_
 intro a3 hE e5 kp
 refine zm 6 hE k e1 ?_
 intro a4 hE e6 kp
 replace e5 := kt kp e5
 apply Z06 7 hE k rfl (by rfl) (by rfl) rfl
 case h =>
  simp [go_sem, ↓IntWalk.iteOmega, ev e5, ev e6]
  with_reducible exact ⟨rfl, rfl⟩
 case hc => exact idxfI_any p _ hrow hn eg hp
 rintro e w6 ⟨r, rfl, hr, RE⟩
 replace O := OwnT.ext O RE
 refine ⟨_, rfl, ?_⟩
 intro a5 hE e7 kp
 refine sd 8 hE k (Z27 rfl e7 rfl) ?_
 intro a7 hE e8 kp
 refine sd 4 hE k (Z01 rfl e8) ?_
 intro a8 hE e4 kp
 refine wpList_nil ?_
 replace k := k.env hE
 clear hE e0 e1
 refine Z00 ?_
 refine wp_ret ?_
 refine Z0i rfl k e4 ?_
 exact ⟨congrArg (fun b => Ending.returned (.bool b)) hr, O.below⟩
end Go.Proofs.YtakkhglbdljfiaaGreatDoor
