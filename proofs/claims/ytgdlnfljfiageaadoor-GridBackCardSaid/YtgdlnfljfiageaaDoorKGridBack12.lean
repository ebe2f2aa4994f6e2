/- grids: isOdd, isGood, isTable, widths (printed by XGrC.gen.py). -/
import Derived.Test.YtgdlnfljfiageaaDoorKGridBack10
import Derived.Test.YtgdlnfljfiageaaDoorKGridBack11
namespace Go.Proofs.YtgdlnfljfiageaaDoor
attribute [local simp] BigFrame.eval_const BigFrame.eval_global BigFrame.eval_func
set_option linter.unusedVariables false
set_option linter.unusedSimpArgs false
open Go.RowKit

theorem Z26 {o : Oper} {ρ : Operand → Value} {x : Operand} {t u : TypeId} {v v' : Value} {w w' : World} (ho : o.op = .convert t u x) (hx : ρ x = v) (h : (convert t u v).run Tryd.prog w = .ok v' w') : (execOp ρ o).run Tryd.prog w = .ok (.value v') w' := by
 simp [execOp, ho, hx, h]
theorem Z6j (r : Nat) (w : World) : (convert 21 9 (.int .i32 ((r : Nat) : Int))).run Tryd.prog w = .ok (.string (sB (encL r))) w := by
 rw [← encL_is]
 simp [convert, run_underlying Tryd.underlying21, run_underlying Tryd.underlying9, Conv.intToString]
theorem Z3w {o : Oper} {ρ : Operand → Value} {x y : Operand} {t : TypeId} {f : FuncId} {lb : Array Value} {u : Value} {w : World} (ho : o.op = .call { callee := .value x, args := #[y], argTypes := #[t] }) (hx : ρ x = .func (.func f) #[] lb) (hy : ρ y = u) (h : (callFunc f (#[u] ++ lb)).run Tryd.prog w = .ok (.enter f (#[u] ++ lb)) w) : (execOp ρ o).run Tryd.prog w = .ok (.enter f (#[u] ++ lb)) w := by
 unfold execOp
 simp only [ho, resolve, hx, Sem.run_bind, Sem.run_pure, Result.andThen_ok, List.map_toArray, List.map_cons, List.map_nil, hy]
 simpa [invoke, go_sem] using h
theorem r1_at {w w' : World} {A : Option Addr} {vs : List Value} (h : Row1 w A id vs) {i : Nat} {v : Value} (hs : vs[i]? = some v) : ∃ b o, A = some ⟨b, o, none⟩ ∧ ∀ w', Below w.heap.size w w' → w'.cell? ⟨b, o + i, none⟩ = some v := by
 obtain ⟨b, o, e, hlt, hc⟩ := h i v hs
 exact ⟨b, o, e, fun w' hb => (hb.cell (p := ⟨b, _, none⟩) hlt).trans hc⟩
theorem Z3i {E : Type} {f : E → Value} {w : World} {A : Option Addr} {X : List E} (h : Row1 w A f X) : Row1 w A id (X.map f) := by
 intro i v hv
 rw [List.getElem?_map] at hv
 obtain ⟨x, hx, rfl⟩ := Option.map_eq_some_iff.1 hv
 exact h i x hx
theorem Z71 {w : World} {A : Option Addr} {X : List (List Tx)} (h : TxsR w A X) : ∃ vs : List Value, vs.length = X.length ∧ Row1 w A id vs ∧ ∀ (i : Nat) (v : Value), vs[i]? = some v → ∃ (T : List Tx) (Aj : Option Addr) (cj : Nat), X[i]? = some T ∧ v = .slice Aj T.length cj ∧ TxR w Aj T := by
 obtain ⟨vs, hl, hp⟩ := Z69 (E := Value) X.length (fun i v => ∃ T b o Aj cj, X[i]? = some T ∧ A = some ⟨b, o, none⟩ ∧ b < w.heap.size ∧ w.cell? ⟨b, o + i, none⟩ = some v ∧ v = .slice Aj T.length cj ∧ TxR w Aj T) (fun i hi => by
  obtain ⟨T, hT⟩ : ∃ T, X[i]? = some T := ⟨_, List.getElem?_eq_getElem hi⟩
  obtain ⟨b, o, Aj, cj, e, hlt, hc, hr⟩ := h i T hT
  exact ⟨_, T, b, o, Aj, cj, hT, e, hlt, hc, rfl, hr⟩)
 refine ⟨vs, hl, fun i v hv => ?_, fun i v hv => ?_⟩
 · obtain ⟨T, b, o, Aj, cj, hT, e, hlt, hc, _, _⟩ := hp i v hv
   exact ⟨b, o, e, hlt, hc⟩
 · obtain ⟨T, b, o, Aj, cj, hT, e, hlt, hc, h1, h2⟩ := hp i v hv
   exact ⟨T, Aj, cj, hT, h1, h2⟩

set_option maxRecDepth 100000 in
set_option maxHeartbeats 4000000 in
theorem odd_any (r : Nat) (W0 : World) : Calls Tryd.prog 51 #[.int .i32 (r : Nat)] W0 fun e w' => e = .returned (.bool (oddB r)) ∧ W0 = w' := by
 refine Z0k Tryd.func51 rfl 14 rfl (by rfl) ?_
 intro a1 k hargs
 have e0 : a1.eval (.tmp 0) = .int .i32 ↑r := hargs 0 _ rfl
 clear hargs
 by_cases h1 : r < 32
 · skip
   refine wp_seq ?_
   refine wp_region_lit ?_
   have hE := Env.refl a1 [2]
   refine sd 2 hE k (Z01 rfl rfl) ?_
   intro a2 hE e2 kp
   refine wpList_nil ?_
   replace e0 := hE.g e0
   replace k := k.env hE
   clear hE e2
   refine Z00 (wp_seq ?_)
   refine wp_region_lit ?_
   have hE := Env.refl a2 [3, 4, 5, 6, 7, 8, 9, 10, 11, 12, 13, 2]
   refine zm 3 hE k e0 ?_
   intro a3 hE e3 kp
   refine sd 4 hE k (Z06 (Z0j rfl e3 rfl) (decide_eq_true (by omega))) ?_
   intro a4 hE e4 kp
   refine sd 5 hE k (Z02 rfl e4) ?_
   intro a5 hE e5 kp
   refine Z04 6 hE k rfl (by rfl) (by rfl) rfl rfl (.inl e5) ?_
   intro a6 hE e6 kp
   replace e5 := kt kp e5
   refine Z04 7 hE k rfl (by rfl) (by rfl) rfl rfl (.inl e5) ?_
   intro a7 hE e7 kp
   replace e5 := kt kp e5
   refine sd 8 hE k (Z09 rfl e5 rfl) ?_
   intro a8 hE e8 kp
   refine sd 9 hE k (Z02 rfl e8) ?_
   intro a9 hE e9 kp
   refine Z04 10 hE k rfl (by rfl) (by rfl) rfl rfl (.inl e9) ?_
   intro a10 hE e10 kp
   replace e9 := kt kp e9
   refine Z04 11 hE k rfl (by rfl) (by rfl) rfl rfl (.inl e9) ?_
   intro a11 hE e11 kp
   replace e9 := kt kp e9
   refine Z04 12 hE k rfl (by rfl) (by rfl) rfl rfl (.inl e9) ?_
   intro a12 hE e12 kp
   replace e9 := kt kp e9
   refine sd 13 hE k (Z09 rfl e9 rfl) ?_
   intro a13 hE e13 kp
   refine sd 2 hE k (Z01 rfl e13) ?_
   intro a14 hE e2 kp
   refine wpList_nil ?_
   replace k := k.env hE
   clear hE e0
   refine Z00 ?_
   refine wp_ret ?_
   refine Z0b rfl k e2 ?_
   exact ⟨congrArg (fun b => Ending.returned (.bool b)) (decide_eq_true (.inl h1)).symm, rfl⟩
 · by_cases h2 : r = 127
   · skip
     refine wp_seq ?_
     refine wp_region_lit ?_
     have hE := Env.refl a1 [2]
     refine sd 2 hE k (Z01 rfl rfl) ?_
     intro a15 hE e2 kp
     refine wpList_nil ?_
     replace e0 := hE.g e0
     replace k := k.env hE
     clear hE e2
     refine Z00 (wp_seq ?_)
     refine wp_region_lit ?_
     have hE := Env.refl a15 [3, 4, 5, 6, 7, 8, 9, 10, 11, 12, 13, 2]
     refine zm 3 hE k e0 ?_
     intro a16 hE e3 kp
     refine sd 4 hE k (Z06 (Z0j rfl e3 rfl) (decide_eq_false (by omega))) ?_
     intro a17 hE e4 kp
     refine sd 5 hE k (Z02 rfl e4) ?_
     intro a18 hE e5 kp
     apply Z03 6 hE k rfl rfl rfl rfl rfl e5
     case h =>
      exact Z02 rfl (hE.g e0)
     intro a19 hE e6 kp
     replace e5 := kt kp e5
     apply Z03 7 hE k rfl rfl rfl rfl rfl e5
     case h =>
      exact Z06 (Z18 rfl e6 rfl) (decide_eq_true (by omega))
     intro a20 hE e7 kp
     replace e5 := kt kp e5
     refine sd 8 hE k (Z07 rfl e5 e7) ?_
     intro a21 hE e8 kp
     refine sd 9 hE k (Z02 rfl e8) ?_
     intro a22 hE e9 kp
     refine Z04 10 hE k rfl (by rfl) (by rfl) rfl rfl (.inl e9) ?_
     intro a23 hE e10 kp
     replace e9 := kt kp e9
     refine Z04 11 hE k rfl (by rfl) (by rfl) rfl rfl (.inl e9) ?_
     intro a24 hE e11 kp
     replace e9 := kt kp e9
     refine Z04 12 hE k rfl (by rfl) (by rfl) rfl rfl (.inl e9) ?_
     intro a25 hE e12 kp
     replace e9 := kt kp e9
     refine sd 13 hE k (Z09 rfl e9 rfl) ?_
     intro a26 hE e13 kp
     refine sd 2 hE k (Z01 rfl e13) ?_
     intro a27 hE e2 kp
     refine wpList_nil ?_
     replace k := k.env hE
     clear hE e0
     refine Z00 ?_
     refine wp_ret ?_
     refine Z0b rfl k e2 ?_
     exact ⟨congrArg (fun b => Ending.returned (.bool b)) (decide_eq_true (.inr (.inl h2))).symm, rfl⟩
   · by_cases h3 : r = 9474
     · skip
       refine wp_seq ?_
       refine wp_region_lit ?_
       have hE := Env.refl a1 [2]
       refine sd 2 hE k (Z01 rfl rfl) ?_
       intro a28 hE e2 kp
       refine wpList_nil ?_
       replace e0 := hE.g e0
       replace k := k.env hE
       clear hE e2
       refine Z00 (wp_seq ?_)
       refine wp_region_lit ?_
       have hE := Env.refl a28 [3, 4, 5, 6, 7, 8, 9, 10, 11, 12, 13, 2]
       refine zm 3 hE k e0 ?_
       intro a29 hE e3 kp
       refine sd 4 hE k (Z06 (Z0j rfl e3 rfl) (decide_eq_false (by omega))) ?_
       intro a30 hE e4 kp
       refine sd 5 hE k (Z02 rfl e4) ?_
       intro a31 hE e5 kp
       apply Z03 6 hE k rfl rfl rfl rfl rfl e5
       case h =>
        exact Z02 rfl (hE.g e0)
       intro a32 hE e6 kp
       replace e5 := kt kp e5
       apply Z03 7 hE k rfl rfl rfl rfl rfl e5
       case h =>
        exact Z06 (Z18 rfl e6 rfl) (decide_eq_false (by omega))
       intro a33 hE e7 kp
       replace e5 := kt kp e5
       refine sd 8 hE k (Z07 rfl e5 e7) ?_
       intro a34 hE e8 kp
       refine sd 9 hE k (Z02 rfl e8) ?_
       intro a35 hE e9 kp
       apply Z03 10 hE k rfl rfl rfl rfl rfl e9
       case h =>
        exact Z02 rfl (hE.g e0)
       intro a36 hE e10 kp
       replace e9 := kt kp e9
       apply Z03 11 hE k rfl rfl rfl rfl rfl e9
       case h =>
        exact Z26 rfl e10 (Z6j r _)
       intro a37 hE e11 kp
       replace e9 := kt kp e9
       apply Z03 12 hE k rfl rfl rfl rfl rfl e9
       case h =>
        exact Z06 (Z25 (l := encL r) (m := [226, 148, 130]) rfl e11 rfl) (decide_eq_true ((Z6g r).2 h3))
       intro a38 hE e12 kp
       replace e9 := kt kp e9
       refine sd 13 hE k (Z07 rfl e9 e12) ?_
       intro a39 hE e13 kp
       refine sd 2 hE k (Z01 rfl e13) ?_
       intro a40 hE e2 kp
       refine wpList_nil ?_
       replace k := k.env hE
       clear hE e0
       refine Z00 ?_
       refine wp_ret ?_
       refine Z0b rfl k e2 ?_
       exact ⟨congrArg (fun b => Ending.returned (.bool b)) (decide_eq_true (.inr (.inr h3))).symm, rfl⟩
     · skip
       refine wp_seq ?_
       refine wp_region_lit ?_
       have hE := Env.refl a1 [2]
       refine sd 2 hE k (Z01 rfl rfl) ?_
       intro a41 hE e2 kp
       refine wpList_nil ?_
       replace e0 := hE.g e0
       replace k := k.env hE
       clear hE e2
       refine Z00 (wp_seq ?_)
       refine wp_region_lit ?_
       have hE := Env.refl a41 [3, 4, 5, 6, 7, 8, 9, 10, 11, 12, 13, 2]
       refine zm 3 hE k e0 ?_
       intro a42 hE e3 kp
       refine sd 4 hE k (Z06 (Z0j rfl e3 rfl) (decide_eq_false (by omega))) ?_
       intro a43 hE e4 kp
       refine sd 5 hE k (Z02 rfl e4) ?_
       intro a44 hE e5 kp
       apply Z03 6 hE k rfl rfl rfl rfl rfl e5
       case h =>
        exact Z02 rfl (hE.g e0)
       intro a45 hE e6 kp
       replace e5 := kt kp e5
       apply Z03 7 hE k rfl rfl rfl rfl rfl e5
       case h =>
        exact Z06 (Z18 rfl e6 rfl) (decide_eq_false (by omega))
       intro a46 hE e7 kp
       replace e5 := kt kp e5
       refine sd 8 hE k (Z07 rfl e5 e7) ?_
       intro a47 hE e8 kp
       refine sd 9 hE k (Z02 rfl e8) ?_
       intro a48 hE e9 kp
       apply Z03 10 hE k rfl rfl rfl rfl rfl e9
       case h =>
        exact Z02 rfl (hE.g e0)
       intro a49 hE e10 kp
       replace e9 := kt kp e9
       apply Z03 11 hE k rfl rfl rfl rfl rfl e9
       case h =>
        exact Z26 rfl e10 (Z6j r _)
       intro a50 hE e11 kp
       replace e9 := kt kp e9
       apply Z03 12 hE k rfl rfl rfl rfl rfl e9
       case h =>
        exact Z06 (Z25 (l := encL r) (m := [226, 148, 130]) rfl e11 rfl) (decide_eq_false (fun h => h3 ((Z6g r).1 h)))
       intro a51 hE e12 kp
       replace e9 := kt kp e9
       refine sd 13 hE k (Z07 rfl e9 e12) ?_
       intro a52 hE e13 kp
       refine sd 2 hE k (Z01 rfl e13) ?_
       intro a53 hE e2 kp
       refine wpList_nil ?_
       replace k := k.env hE
       clear hE e0
       refine Z00 ?_
       refine wp_ret ?_
       refine Z0b rfl k e2 ?_
       exact ⟨congrArg (fun b => Ending.returned (.bool b)) (decide_eq_false (fun h => by rcases h with h | h | h; exact h1 h; exact h2 h; exact h3 h)).symm, rfl⟩
theorem Z7g (w : World) : PredGrows Tryd.prog 51 #[] oddB w := fun W x hx hb => (odd_any x W).mono fun e w' h => ⟨h.1, by rw [← h.2]; exact Below.refl _ _⟩
theorem Z68 (l : Tx) (w : World) : Calls Tryd.prog 50 #[.string (sB l), .func (.func 51) #[] #[]] w fun e w' => e = .returned (.int .i64 (Lib.idxFunc oddB true (sB l))) ∧ Ext w w' :=
 Tryd.strings_IndexFunc_grows 51 #[] (Go.Proofs.enters_of Tryd.func51 (by kernel_rfl) rfl) oddB (sB l) w (Z7g w)
theorem trim_sp (l : Tx) (w : World) (hl : l.length ≤ 1000000) : Calls Tryd.prog 52 #[.string (sB l), .string (sB [32])] w fun e w' => e = .returned (.string (sB (Lib.trimB l 32))) ∧ Ext w w' :=
 (Tryd.strings_Trim_one (sB l) 32 (by decide) w (by rw [Z0m]; omega)).mono fun e w' h => ⟨h.1, by rcases h.2 with h | h <;> rw [h]; exact Ext.refl _; exact Ext.drew _⟩
set_option maxRecDepth 100000 in
set_option maxHeartbeats 4000000 in
theorem Z6c (l : Tx) (W0 : World) (hl : l.length ≤ 1000000) (hv : VarW W0) : Calls Tryd.prog 33 #[.string (sB l)] W0 fun e w' => e = .returned (.bool (goodB l)) ∧ Ext W0 w' := by
 have O := OwnT.start W0
 rw [good_is l]
 refine Z0k Tryd.func33 rfl 16 rfl (by rfl) ?_
 intro a1 k hargs
 have e0 : a1.eval (.tmp 0) = .string (sB l) := hargs 0 _ rfl
 clear hargs
 cases hb1 : Lib.validD l with
 | false =>
  refine wp_seq ?_
  refine wp_region_lit ?_
  have hE := Env.refl a1 [2]
  refine sd 2 hE k (Z01 rfl rfl) ?_
  intro a2 hE e2 kp
  refine wpList_nil ?_
  replace e0 := hE.g e0
  replace k := k.env hE
  clear hE e2
  refine Z00 (wp_seq ?_)
  refine wp_region_lit ?_
  have hE := Env.refl a2 [3, 4, 5, 6, 7, 8, 9, 10, 11, 12, 13, 14, 15, 2]
  refine zm 3 hE k e0 ?_
  intro a3 hE e3 kp
  apply Z08 4 hE k rfl (by rfl) (by rfl) rfl
  case h =>
   simp [go_sem, ↓IntWalk.iteOmega, ev e3]
   with_reducible exact ⟨rfl, rfl⟩
  case hc => exact Z29 l _ hl (hv.below O.below)
  rintro e w5 ⟨he, RE⟩
  replace O := OwnT.ext O RE
  refine ⟨_, he.trans (congrArg (fun b => Ending.returned (.bool b)) hb1), ?_⟩
  intro a4 hE e4 kp
  refine sd 5 hE k (Z02 rfl e4) ?_
  intro a6 hE e5 kp
  refine Z04 6 hE k rfl (by rfl) (by rfl) rfl rfl (.inl e5) ?_
  intro a7 hE e6 kp
  replace e5 := kt kp e5
  refine Z04 7 hE k rfl (by rfl) (by rfl) rfl rfl (.inl e5) ?_
  intro a8 hE e7 kp
  replace e5 := kt kp e5
  refine Z04 8 hE k rfl (by rfl) (by rfl) rfl rfl (.inl e5) ?_
  intro a9 hE e8 kp
  replace e5 := kt kp e5
  refine sd 9 hE k (Z07 rfl e5 rfl) ?_
  intro a10 hE e9 kp
  refine sd 10 hE k (Z02 rfl e9) ?_
  intro a11 hE e10 kp
  refine Z04 11 hE k rfl (by rfl) (by rfl) rfl rfl (.inl e10) ?_
  intro a12 hE e11 kp
  replace e10 := kt kp e10
  refine Z04 12 hE k rfl (by rfl) (by rfl) rfl rfl (.inl e10) ?_
  intro a13 hE e12 kp
  replace e10 := kt kp e10
  refine Z04 13 hE k rfl (by rfl) (by rfl) rfl rfl (.inl e10) ?_
  intro a14 hE e13 kp
  replace e10 := kt kp e10; replace e12 := kt kp e12
  refine Z04 14 hE k rfl (by rfl) (by rfl) rfl rfl (.inl e10) ?_
  intro a15 hE e14 kp
  replace e10 := kt kp e10
  refine sd 15 hE k (Z07 rfl e10 rfl) ?_
  intro a16 hE e15 kp
  refine sd 2 hE k (Z01 rfl e15) ?_
  intro a17 hE e2 kp
  refine wpList_nil ?_
  replace k := k.env hE
  clear hE e0
  refine Z00 ?_
  refine wp_ret ?_
  refine Z0b rfl k e2 ?_
  exact ⟨rfl, O.below⟩
 | true =>
  by_cases hb2 : Lib.idxFunc oddB true (sB l) < 0
  · skip
    refine wp_seq ?_
    refine wp_region_lit ?_
    have hE := Env.refl a1 [2]
    refine sd 2 hE k (Z01 rfl rfl) ?_
    intro a18 hE e2 kp
    refine wpList_nil ?_
    replace e0 := hE.g e0
    replace k := k.env hE
    clear hE e2
    refine Z00 (wp_seq ?_)
    refine wp_region_lit ?_
    have hE := Env.refl a18 [3, 4, 5, 6, 7, 8, 9, 10, 11, 12, 13, 14, 15, 2]
    refine zm 3 hE k e0 ?_
    intro a19 hE e3 kp
    apply Z08 4 hE k rfl (by rfl) (by rfl) rfl
    case h =>
     simp [go_sem, ↓IntWalk.iteOmega, ev e3]
     with_reducible exact ⟨rfl, rfl⟩
    case hc => exact Z29 l _ hl (hv.below O.below)
    rintro e w21 ⟨he, RE⟩
    replace O := OwnT.ext O RE
    refine ⟨_, he.trans (congrArg (fun b => Ending.returned (.bool b)) hb1), ?_⟩
    intro a20 hE e4 kp
    refine sd 5 hE k (Z02 rfl e4) ?_
    intro a22 hE e5 kp
    apply Z03 6 hE k rfl rfl rfl rfl rfl e5
    case h =>
     exact Z02 rfl (hE.g e0)
    intro a23 hE e6 kp
    replace e5 := kt kp e5
    apply Z10 7 hE k rfl (by rfl) (by rfl) rfl rfl e5
    case h =>
     simp [go_sem, ↓IntWalk.iteOmega, ev e6]
     with_reducible exact ⟨rfl, rfl⟩
    case hc => exact Z68 l _
    rintro e w25 ⟨rfl, RE⟩
    replace O := OwnT.ext O RE
    refine ⟨_, rfl, ?_⟩
    intro a24 hE e7 kp
    replace e5 := kt kp e5
    apply Z03 8 hE k rfl rfl rfl rfl rfl e5
    case h =>
     exact Z06 (Z0j rfl e7 rfl) (decide_eq_true (by omega))
    intro a26 hE e8 kp
    replace e5 := kt kp e5
    refine sd 9 hE k (Z09 rfl e5 e8) ?_
    intro a27 hE e9 kp
    refine sd 10 hE k (Z02 rfl e9) ?_
    intro a28 hE e10 kp
    apply Z03 11 hE k rfl rfl rfl rfl rfl e10
    case h =>
     exact Z02 rfl (hE.g e0)
    intro a29 hE e11 kp
    replace e10 := kt kp e10
    apply Z10 12 hE k rfl (by rfl) (by rfl) rfl rfl e10
    case h =>
     simp [go_sem, ↓IntWalk.iteOmega, ev e11]
     with_reducible exact ⟨rfl, rfl⟩
    case hc => exact trim_sp l _ hl
    rintro e w31 ⟨rfl, RE⟩
    replace O := OwnT.ext O RE
    refine ⟨_, rfl, ?_⟩
    intro a30 hE e12 kp
    replace e10 := kt kp e10
    apply Z03 13 hE k rfl rfl rfl rfl rfl e10
    case h =>
     exact Z02 rfl (hE.g e0)
    intro a32 hE e13 kp
    replace e10 := kt kp e10; replace e12 := kt kp e12
    apply Z03 14 hE k rfl rfl rfl rfl rfl e10
    case h =>
     exact Z25 (l := Lib.trimB l 32) (m := l) rfl e12 e13
    intro a33 hE e14 kp
    replace e10 := kt kp e10
    refine sd 15 hE k (Z09 rfl e10 e14) ?_
    intro a34 hE e15 kp
    refine sd 2 hE k (Z01 rfl e15) ?_
    intro a35 hE e2 kp
    refine wpList_nil ?_
    replace k := k.env hE
    clear hE e0
    refine Z00 ?_
    refine wp_ret ?_
    refine Z0b rfl k e2 ?_
    exact ⟨by rw [decide_eq_true hb2]; rfl, O.below⟩
  · skip
    refine wp_seq ?_
    refine wp_region_lit ?_
    have hE := Env.refl a1 [2]
    refine sd 2 hE k (Z01 rfl rfl) ?_
    intro a36 hE e2 kp
    refine wpList_nil ?_
    replace e0 := hE.g e0
    replace k := k.env hE
    clear hE e2
    refine Z00 (wp_seq ?_)
    refine wp_region_lit ?_
    have hE := Env.refl a36 [3, 4, 5, 6, 7, 8, 9, 10, 11, 12, 13, 14, 15, 2]
    refine zm 3 hE k e0 ?_
    intro a37 hE e3 kp
    apply Z08 4 hE k rfl (by rfl) (by rfl) rfl
    case h =>
     simp [go_sem, ↓IntWalk.iteOmega, ev e3]
     with_reducible exact ⟨rfl, rfl⟩
    case hc => exact Z29 l _ hl (hv.below O.below)
    rintro e w39 ⟨he, RE⟩
    replace O := OwnT.ext O RE
    refine ⟨_, he.trans (congrArg (fun b => Ending.returned (.bool b)) hb1), ?_⟩
    intro a38 hE e4 kp
    refine sd 5 hE k (Z02 rfl e4) ?_
    intro a40 hE e5 kp
    apply Z03 6 hE k rfl rfl rfl rfl rfl e5
    case h =>
     exact Z02 rfl (hE.g e0)
    intro a41 hE e6 kp
    replace e5 := kt kp e5
    apply Z10 7 hE k rfl (by rfl) (by rfl) rfl rfl e5
    case h =>
     simp [go_sem, ↓IntWalk.iteOmega, ev e6]
     with_reducible exact ⟨rfl, rfl⟩
    case hc => exact Z68 l _
    rintro e w43 ⟨rfl, RE⟩
    replace O := OwnT.ext O RE
    refine ⟨_, rfl, ?_⟩
    intro a42 hE e7 kp
    replace e5 := kt kp e5
    apply Z03 8 hE k rfl rfl rfl rfl rfl e5
    case h =>
     exact Z06 (Z0j rfl e7 rfl) (decide_eq_false (by omega))
    intro a44 hE e8 kp
    replace e5 := kt kp e5
    refine sd 9 hE k (Z09 rfl e5 e8) ?_
    intro a45 hE e9 kp
    refine sd 10 hE k (Z02 rfl e9) ?_
    intro a46 hE e10 kp
    refine Z04 11 hE k rfl (by rfl) (by rfl) rfl rfl (.inl e10) ?_
    intro a47 hE e11 kp
    replace e10 := kt kp e10
    refine Z04 12 hE k rfl (by rfl) (by rfl) rfl rfl (.inl e10) ?_
    intro a48 hE e12 kp
    replace e10 := kt kp e10
    refine Z04 13 hE k rfl (by rfl) (by rfl) rfl rfl (.inl e10) ?_
    intro a49 hE e13 kp
    replace e10 := kt kp e10; replace e12 := kt kp e12
    refine Z04 14 hE k rfl (by rfl) (by rfl) rfl rfl (.inl e10) ?_
    intro a50 hE e14 kp
    replace e10 := kt kp e10
    refine sd 15 hE k (Z07 rfl e10 rfl) ?_
    intro a51 hE e15 kp
    refine sd 2 hE k (Z01 rfl e15) ?_
    intro a52 hE e2 kp
    refine wpList_nil ?_
    replace k := k.env hE
    clear hE e0
    refine Z00 ?_
    refine wp_ret ?_
    refine Z0b rfl k e2 ?_
    exact ⟨by rw [decide_eq_false hb2]; rfl, O.below⟩
theorem Z7n (l : Tx) (W0 : World) (hl : l.length ≤ 1000000) (hv : VarW W0) : Calls Tryd.prog 32 #[.string (sB l)] W0 fun e w' => e = .returned (.bool (!goodB l)) ∧ Ext W0 w' := by
 have O := OwnT.start W0
 refine Z0k Tryd.func32 rfl 6 rfl (by rfl) ?_
 intro a1 k hargs
 have e0 : a1.eval (.tmp 0) = .string (sB l) := hargs 0 _ rfl
 clear hargs
 refine wp_seq ?_
 refine wp_region_lit ?_
 have hE := Env.refl a1 [2]
 refine sd 2 hE k (Z01 rfl rfl) ?_
 intro a2 hE e2 kp
 refine wpList_nil ?_
 replace e0 := hE.g e0
 replace k := k.env hE
 clear hE e2
 refine Z00 (wp_seq ?_)
 refine wp_region_lit ?_
 have hE := Env.refl a2 [3, 4, 5, 2]
 refine zm 3 hE k e0 ?_
 intro a3 hE e3 kp
 apply Z08 4 hE k rfl (by rfl) (by rfl) rfl
 case h =>
  simp [go_sem, ↓IntWalk.iteOmega, ev e3]
  with_reducible exact ⟨rfl, rfl⟩
 case hc => exact Z6c l _ hl hv
 rintro e w5 ⟨rfl, RE⟩
 replace O := OwnT.ext O RE
 refine ⟨_, rfl, ?_⟩
 intro a4 hE e4 kp
 refine sd 5 hE k (Z3a rfl e4) ?_
 intro a6 hE e5 kp
 refine sd 2 hE k (Z01 rfl e5) ?_
 intro a7 hE e2 kp
 refine wpList_nil ?_
 replace k := k.env hE
 clear hE e0
 refine Z00 ?_
 refine wp_ret ?_
 refine Z0b rfl k e2 ?_
 exact ⟨rfl, O.below⟩
set_option maxRecDepth 100000 in
set_option maxHeartbeats 4000000 in
theorem idxf_S {A : Option Addr} {ca f : Nat} {lb : Array Value} {vs : List Value} (p : Value → Bool) (W0 : World) (hrow : Row1 W0 A id vs) (hn : vs.length ≤ 1000000000) (eg : ∀ args w, (callFunc f args).run Tryd.prog w = .ok (.enter f args) w) (hp : ∀ v ∈ vs, ∀ w, Below W0.heap.size W0 w → Calls Tryd.prog f (#[v] ++ lb) w fun e w' => e = .returned (.bool (p v)) ∧ Ext w w') : Calls Tryd.prog 53 #[.slice A vs.length ca, .func (.func f) #[] lb] W0 fun e w' => ∃ r : Int, e = .returned (.int .i64 r) ∧ decide (0 ≤ r) = vs.any p ∧ Ext W0 w' := by
 have O := OwnT.start W0
 refine Z0k Tryd.func53 rfl 19 rfl (by rfl) ?_
 intro a1 k hargs
 have e0 : a1.eval (.tmp 0) = .slice A vs.length ca := hargs 0 _ rfl
 have e1 : a1.eval (.tmp 1) = .func (.func f) #[] lb := hargs 1 _ rfl
 clear hargs
 refine wp_seq ?_
 refine wp_region_lit ?_
 have hE := Env.refl a1 [4]
 refine sd 4 hE k (Z01 rfl rfl) ?_
 intro a2 hE e4 kp
 refine wpList_nil ?_
 replace e0 := hE.g e0; replace e1 := hE.g e1
 replace k := k.env hE
 clear hE e4
 refine Z00 (wp_seq ?_)
 refine wp_seq ?_
 refine wp_region_lit ?_
 have hE := Env.refl a2 [6, 7, 8]
 refine zm 6 hE k e0 ?_
 intro a3 hE e6 kp
 refine sd 7 hE k (Z0d Tryd.underlying36 rfl e6) ?_
 intro a4 hE e7 kp
 refine sd 8 hE k (Z02 rfl rfl) ?_
 intro a5 hE e8 kp
 replace e7 := kt kp e7
 refine wpList_nil ?_
 replace e0 := hE.g e0; replace e1 := hE.g e1
 replace k := k.env hE
 clear hE
 refine Z00 ?_
 refine wp_block ?_
 refine wp_loop (fun a w => Fr 19 a ∧ a.eval (.tmp 0) = .slice A vs.length ca ∧ a.eval (.tmp 1) = .func (.func f) #[] lb ∧ a.eval (.tmp 7) = .int .i64 ↑vs.length ∧ ∃ z : Nat, a.eval (.tmp 8) = .int .i64 ↑z ∧ z ≤ vs.length ∧ (∀ v ∈ vs.take z, p v = false) ∧ OwnT W0.heap.size W0 [] w) (fun a w => vs.length - (intOf (a.eval (.tmp 8))).toNat) ?_ ?_
 · exact ⟨k, e0, e1, e7, 0, e8, Nat.zero_le _, (fun y h => by simp at h), O⟩
 intro a6 w7 hI
 clear k e0 e1 e7
 obtain ⟨k, e0, e1, e7, h_⟩ := hI
 clear O e8
 obtain ⟨z, e8, hz, hall, O⟩ := h_
 have mz := e8
 by_cases hlt : z < vs.length
 · skip
   have hzI : (z : Int) < (vs.length : Int) := by omega
   obtain ⟨v, hv⟩ : ∃ v, vs[z]? = some v := ⟨_, List.getElem?_eq_getElem hlt⟩
   obtain ⟨b, o, hA, hc⟩ := r1_at (w' := W0) hrow hv
   have hcall := hp v (List.mem_of_getElem? hv)
   subst hA
   obtain ⟨bb, hbb⟩ : ∃ b, p v = b := ⟨_, rfl⟩

   refine wp_seq ?_
   refine wp_region_lit ?_
   have hE := Env.refl a6 [9]
   refine sd 9 hE k (Z06 (Z0j rfl (hE.g e8) (hE.g e7)) (decide_eq_true (by omega))) ?_
   intro a8 hE e9 kp
   refine wpList_nil ?_
   replace e0 := hE.g e0; replace e1 := hE.g e1; replace e7 := hE.g e7; replace e8 := hE.g e8
   replace k := k.env hE
   clear hE
   refine Z00 (wp_seq ?_)
   refine Z0a e9 rfl ?_
   refine wp_skip ?_
   refine Z00 (wp_seq ?_)
   refine wp_block ?_
   refine wp_seq ?_
   refine wp_region_lit ?_
   have hE := Env.refl a8 [10, 5]
   refine zm 10 hE k e8 ?_
   intro a9 hE e10 kp
   refine sd 5 hE k (Z01 rfl e10) ?_
   intro a10 hE e5 kp
   refine wpList_nil ?_
   replace e0 := hE.g e0; replace e1 := hE.g e1; replace e7 := hE.g e7; replace e8 := hE.g e8
   replace k := k.env hE
   clear hE e9
   refine Z00 (wp_seq ?_)
   refine wp_region_lit ?_
   have hE := Env.refl a10 [11, 12, 13, 14, 15, 16]
   refine zm 11 hE k e1 ?_
   intro a11 hE e11 kp
   refine zm 12 hE k e0 ?_
   intro a12 hE e12 kp
   replace e11 := kt kp e11
   refine zm 13 hE k e5 ?_
   intro a13 hE e13 kp
   replace e11 := kt kp e11; replace e12 := kt kp e12
   apply Z05 14 hE k rfl rfl rfl rfl
   case h =>
    simp [go_sem, ↓IntWalk.iteOmega, ev e12, ev e13]
    with_reducible rfl
   intro a14 hE e14 kp
   replace e11 := kt kp e11
   apply Z05 15 hE k rfl rfl rfl rfl
   case h =>
    simp [go_sem, ↓IntWalk.iteOmega, ev e14, hc _ O.below]
    with_reducible rfl
   intro a15 hE e15 kp
   replace e11 := kt kp e11
   apply Z08 16 hE k rfl (by rfl) (by rfl) rfl
   case h =>
    exact Z3w rfl e11 e15 (eg _ _)
   case hc => exact hcall _ O.below
   rintro e w17 ⟨he, RE⟩
   replace O := OwnT.ext O RE
   refine ⟨_, he.trans (congrArg (fun b => Ending.returned (.bool b)) hbb), ?_⟩
   intro a16 hE e16 kp
   refine wpList_nil ?_
   replace e0 := hE.g e0; replace e1 := hE.g e1; replace e5 := hE.g e5; replace e7 := hE.g e7; replace e8 := hE.g e8
   replace k := k.env hE
   clear hE
   refine Z00 ?_
   cases bb with
   | true =>
    refine Z0a e16 (rfl) ?_
    clear e0 e1 e7 e8 e16
    refine wp_seq ?_
    refine wp_region_lit ?_
    have hE := Env.refl a16 [17, 4]
    refine zm 17 hE k e5 ?_
    intro a18 hE e17 kp
    refine sd 4 hE k (Z01 rfl e17) ?_
    intro a19 hE e4 kp
    refine wpList_nil ?_
    replace k := k.env hE
    clear hE e5
    refine Z00 ?_
    refine wp_ret ?_
    refine Z0o ?_
    refine Z0c ?_
    refine Z0c ?_
    refine Z0o ?_
    refine Z0c ?_
    refine Z0b rfl k e4 ?_
    exact ⟨_, rfl, by rw [decide_eq_true (by omega)]; exact (List.any_eq_true.2 ⟨v, List.mem_of_getElem? hv, hbb⟩).symm, O.below⟩
   | false =>
    refine Z0e e16 (rfl) ?_
    clear e5 e16
    refine wp_skip ?_
    refine Z0i ?_
    refine Z00 ?_
    refine wp_region_lit ?_
    have hE := Env.refl a16 [18, 8]
    refine sd 18 hE k (Z0z rfl e8 rfl (by omega)) ?_
    intro a20 hE e18 kp
    replace e8 := kt kp e8
    refine sd 8 hE k (Z02 rfl e18) ?_
    intro a21 hE e8 kp
    refine wpList_nil ?_
    replace e0 := hE.g e0; replace e1 := hE.g e1; replace e7 := hE.g e7
    replace k := k.env hE
    clear hE
    refine Z00 ?_
    refine ⟨⟨k, e0, e1, e7, z + 1, e8, by omega, fun u hu => ?_, O⟩, ?_⟩
    · rw [List.take_add_one, hv] at hu; rcases List.mem_append.1 hu with hu | hu
      · exact hall u hu
      · simp at hu; rw [hu]; exact hbb
    · rw [e8, mz]; simp only [intOf]; omega
 · skip
   refine wp_seq ?_
   refine wp_region_lit ?_
   have hE := Env.refl a6 [9]
   refine sd 9 hE k (Z06 (Z0j rfl (hE.g e8) (hE.g e7)) (decide_eq_false (by omega))) ?_
   intro a22 hE e9 kp
   refine wpList_nil ?_
   replace e0 := hE.g e0; replace e1 := hE.g e1; replace e7 := hE.g e7; replace e8 := hE.g e8
   replace k := k.env hE
   clear hE
   refine Z00 (wp_seq ?_)
   refine Z0e e9 rfl ?_
   refine wp_exit ?_
   refine Z0f ?_
   refine Z0f ?_
   refine Z0n ?_
   refine Z00 (wp_seq ?_)
   refine wp_region_lit ?_
   have hE := Env.refl a22 [4]
   refine sd 4 hE k (Z01 rfl rfl) ?_
   intro a23 hE e4 kp
   refine wpList_nil ?_
   replace k := k.env hE
   clear hE e0 e1 e7 e8 e9
   refine Z00 ?_
   refine wp_ret ?_
   have hall2 : ∀ v ∈ vs, p v = false := by rw [List.take_of_length_le (by omega)] at hall; exact hall
   refine Z0b rfl k e4 ?_
   exact ⟨_, rfl, by rw [decide_eq_false (by decide)]; exact (List.any_eq_false.2 (fun v hv => by rw [hall2 v hv]; decide)).symm, O.below⟩
set_option maxRecDepth 100000 in
set_option maxHeartbeats 4000000 in
theorem conf_S {A : Option Addr} {ca f : Nat} {lb : Array Value} {vs : List Value} (p : Value → Bool) (W0 : World) (hrow : Row1 W0 A id vs) (hn : vs.length ≤ 1000000000) (eg : ∀ args w, (callFunc f args).run Tryd.prog w = .ok (.enter f args) w) (hp : ∀ v ∈ vs, ∀ w, Below W0.heap.size W0 w → Calls Tryd.prog f (#[v] ++ lb) w fun e w' => e = .returned (.bool (p v)) ∧ Ext w w') : Calls Tryd.prog 34 #[.slice A vs.length ca, .func (.func f) #[] lb] W0 fun e w' => e = .returned (.bool (vs.any p)) ∧ Ext W0 w' := by
 have O := OwnT.start W0
 refine Z0k Tryd.func34 rfl 9 rfl (by rfl) ?_
 intro a1 k hargs
 have e0 : a1.eval (.tmp 0) = .slice A vs.length ca := hargs 0 _ rfl
 have e1 : a1.eval (.tmp 1) = .func (.func f) #[] lb := hargs 1 _ rfl
 clear hargs
 refine wp_seq ?_
 refine wp_region_lit ?_
 have hE := Env.refl a1 [4]
 refine sd 4 hE k (Z01 rfl rfl) ?_
 intro a2 hE e4 kp
 refine wpList_nil ?_
 replace e0 := hE.g e0; replace e1 := hE.g e1
 replace k := k.env hE
 clear hE e4
 refine Z00 (wp_seq ?_)
 refine wp_region_lit ?_
 have hE := Env.refl a2 [5, 6, 7, 8, 4]
 refine zm 5 hE k e0 ?_
 intro a3 hE e5 kp
 refine zm 6 hE k e1 ?_
 intro a4 hE e6 kp
 replace e5 := kt kp e5
 apply Z08 7 hE k rfl (by rfl) (by rfl) rfl
 case h =>
  simp [go_sem, ↓IntWalk.iteOmega, ev e5, ev e6]
  with_reducible exact ⟨rfl, rfl⟩
 case hc => exact idxf_S p _ hrow hn eg hp
 rintro e w6 ⟨r, rfl, hr, RE⟩
 replace O := OwnT.ext O RE
 refine ⟨_, rfl, ?_⟩
 intro a5 hE e7 kp
 refine sd 8 hE k (Z3b rfl e7 rfl) ?_
 intro a7 hE e8 kp
 refine sd 4 hE k (Z01 rfl e8) ?_
 intro a8 hE e4 kp
 refine wpList_nil ?_
 replace k := k.env hE
 clear hE e0 e1
 refine Z00 ?_
 refine wp_ret ?_
 refine Z0b rfl k e4 ?_
 exact ⟨congrArg (fun b => Ending.returned (.bool b)) hr, O.below⟩
set_option maxRecDepth 100000 in
set_option maxHeartbeats 4000000 in
theorem idxf_I {A : Option Addr} {ca f : Nat} {lb : Array Value} {vs : List Value} (p : Value → Bool) (W0 : World) (hrow : Row1 W0 A id vs) (hn : vs.length ≤ 1000000000) (eg : ∀ args w, (callFunc f args).run Tryd.prog w = .ok (.enter f args) w) (hp : ∀ v ∈ vs, ∀ w, Below W0.heap.size W0 w → Calls Tryd.prog f (#[v] ++ lb) w fun e w' => e = .returned (.bool (p v)) ∧ Ext w w') : Calls Tryd.prog 44 #[.slice A vs.length ca, .func (.func f) #[] lb] W0 fun e w' => ∃ r : Int, e = .returned (.int .i64 r) ∧ decide (0 ≤ r) = vs.any p ∧ Ext W0 w' := by
 have O := OwnT.start W0
 refine Z0k Tryd.func44 rfl 19 rfl (by rfl) ?_
 intro a1 k hargs
 have e0 : a1.eval (.tmp 0) = .slice A vs.length ca := hargs 0 _ rfl
 have e1 : a1.eval (.tmp 1) = .func (.func f) #[] lb := hargs 1 _ rfl
 clear hargs
 refine wp_seq ?_
 refine wp_region_lit ?_
 have hE := Env.refl a1 [4]
 refine sd 4 hE k (Z01 rfl rfl) ?_
 intro a2 hE e4 kp
 refine wpList_nil ?_
 replace e0 := hE.g e0; replace e1 := hE.g e1
 replace k := k.env hE
 clear hE e4
 refine Z00 (wp_seq ?_)
 refine wp_seq ?_
 refine wp_region_lit ?_
 have hE := Env.refl a2 [6, 7, 8]
 refine zm 6 hE k e0 ?_
 intro a3 hE e6 kp
 refine sd 7 hE k (Z0d Tryd.underlying33 rfl e6) ?_
 intro a4 hE e7 kp
 refine sd 8 hE k (Z02 rfl rfl) ?_
 intro a5 hE e8 kp
 replace e7 := kt kp e7
 refine wpList_nil ?_
 replace e0 := hE.g e0; replace e1 := hE.g e1
 replace k := k.env hE
 clear hE
 refine Z00 ?_
 refine wp_block ?_
 refine wp_loop (fun a w => Fr 19 a ∧ a.eval (.tmp 0) = .slice A vs.length ca ∧ a.eval (.tmp 1) = .func (.func f) #[] lb ∧ a.eval (.tmp 7) = .int .i64 ↑vs.length ∧ ∃ z : Nat, a.eval (.tmp 8) = .int .i64 ↑z ∧ z ≤ vs.length ∧ (∀ v ∈ vs.take z, p v = false) ∧ OwnT W0.heap.size W0 [] w) (fun a w => vs.length - (intOf (a.eval (.tmp 8))).toNat) ?_ ?_
 · exact ⟨k, e0, e1, e7, 0, e8, Nat.zero_le _, (fun y h => by simp at h), O⟩
 intro a6 w7 hI
 clear k e0 e1 e7
 obtain ⟨k, e0, e1, e7, h_⟩ := hI
 clear O e8
 obtain ⟨z, e8, hz, hall, O⟩ := h_
 have mz := e8
 by_cases hlt : z < vs.length
 · skip
   have hzI : (z : Int) < (vs.length : Int) := by omega
   obtain ⟨v, hv⟩ : ∃ v, vs[z]? = some v := ⟨_, List.getElem?_eq_getElem hlt⟩
   obtain ⟨b, o, hA, hc⟩ := r1_at (w' := W0) hrow hv
   have hcall := hp v (List.mem_of_getElem? hv)
   subst hA
   obtain ⟨bb, hbb⟩ : ∃ b, p v = b := ⟨_, rfl⟩

   refine wp_seq ?_
   refine wp_region_lit ?_
   have hE := Env.refl a6 [9]
   refine sd 9 hE k (Z06 (Z0j rfl (hE.g e8) (hE.g e7)) (decide_eq_true (by omega))) ?_
   intro a8 hE e9 kp
   refine wpList_nil ?_
   replace e0 := hE.g e0; replace e1 := hE.g e1; replace e7 := hE.g e7; replace e8 := hE.g e8
   replace k := k.env hE
   clear hE
   refine Z00 (wp_seq ?_)
   refine Z0a e9 rfl ?_
   refine wp_skip ?_
   refine Z00 (wp_seq ?_)
   refine wp_block ?_
   refine wp_seq ?_
   refine wp_region_lit ?_
   have hE := Env.refl a8 [10, 5]
   refine zm 10 hE k e8 ?_
   intro a9 hE e10 kp
   refine sd 5 hE k (Z01 rfl e10) ?_
   intro a10 hE e5 kp
   refine wpList_nil ?_
   replace e0 := hE.g e0; replace e1 := hE.g e1; replace e7 := hE.g e7; replace e8 := hE.g e8
   replace k := k.env hE
   clear hE e9
   refine Z00 (wp_seq ?_)
   refine wp_region_lit ?_
   have hE := Env.refl a10 [11, 12, 13, 14, 15, 16]
   refine zm 11 hE k e1 ?_
   intro a11 hE e11 kp
   refine zm 12 hE k e0 ?_
   intro a12 hE e12 kp
   replace e11 := kt kp e11
   refine zm 13 hE k e5 ?_
   intro a13 hE e13 kp
   replace e11 := kt kp e11; replace e12 := kt kp e12
   apply Z05 14 hE k rfl rfl rfl rfl
   case h =>
    simp [go_sem, ↓IntWalk.iteOmega, ev e12, ev e13]
    with_reducible rfl
   intro a14 hE e14 kp
   replace e11 := kt kp e11
   apply Z05 15 hE k rfl rfl rfl rfl
   case h =>
    simp [go_sem, ↓IntWalk.iteOmega, ev e14, hc _ O.below]
    with_reducible rfl
   intro a15 hE e15 kp
   replace e11 := kt kp e11
   apply Z08 16 hE k rfl (by rfl) (by rfl) rfl
   case h =>
    exact Z3w rfl e11 e15 (eg _ _)
   case hc => exact hcall _ O.below
   rintro e w17 ⟨he, RE⟩
   replace O := OwnT.ext O RE
   refine ⟨_, he.trans (congrArg (fun b => Ending.returned (.bool b)) hbb), ?_⟩
   intro a16 hE e16 kp
   refine wpList_nil ?_
   replace e0 := hE.g e0; replace e1 := hE.g e1; replace e5 := hE.g e5; replace e7 := hE.g e7; replace e8 := hE.g e8
   replace k := k.env hE
   clear hE
   refine Z00 ?_
   cases bb with
   | true =>
    refine Z0a e16 (rfl) ?_
    clear e0 e1 e7 e8 e16
    refine wp_seq ?_
    refine wp_region_lit ?_
    have hE := Env.refl a16 [17, 4]
    refine zm 17 hE k e5 ?_
    intro a18 hE e17 kp
    refine sd 4 hE k (Z01 rfl e17) ?_
    intro a19 hE e4 kp
    refine wpList_nil ?_
    replace k := k.env hE
    clear hE e5
    refine Z00 ?_
    refine wp_ret ?_
    refine Z0o ?_
    refine Z0c ?_
    refine Z0c ?_
    refine Z0o ?_
    refine Z0c ?_
    refine Z0b rfl k e4 ?_
    exact ⟨_, rfl, by rw [decide_eq_true (by omega)]; exact (List.any_eq_true.2 ⟨v, List.mem_of_getElem? hv, hbb⟩).symm, O.below⟩
   | false =>
    refine Z0e e16 (rfl) ?_
    clear e5 e16
    refine wp_skip ?_
    refine Z0i ?_
    refine Z00 ?_
    refine wp_region_lit ?_
    have hE := Env.refl a16 [18, 8]
    refine sd 18 hE k (Z0z rfl e8 rfl (by omega)) ?_
    intro a20 hE e18 kp
    replace e8 := kt kp e8
    refine sd 8 hE k (Z02 rfl e18) ?_
    intro a21 hE e8 kp
    refine wpList_nil ?_
    replace e0 := hE.g e0; replace e1 := hE.g e1; replace e7 := hE.g e7
    replace k := k.env hE
    clear hE
    refine Z00 ?_
    refine ⟨⟨k, e0, e1, e7, z + 1, e8, by omega, fun u hu => ?_, O⟩, ?_⟩
    · rw [List.take_add_one, hv] at hu; rcases List.mem_append.1 hu with hu | hu
      · exact hall u hu
      · simp at hu; rw [hu]; exact hbb
    · rw [e8, mz]; simp only [intOf]; omega
 · skip
   refine wp_seq ?_
   refine wp_region_lit ?_
   have hE := Env.refl a6 [9]
   refine sd 9 hE k (Z06 (Z0j rfl (hE.g e8) (hE.g e7)) (decide_eq_false (by omega))) ?_
   intro a22 hE e9 kp
   refine wpList_nil ?_
   replace e0 := hE.g e0; replace e1 := hE.g e1; replace e7 := hE.g e7; replace e8 := hE.g e8
   replace k := k.env hE
   clear hE
   refine Z00 (wp_seq ?_)
   refine Z0e e9 rfl ?_
   refine wp_exit ?_
   refine Z0f ?_
   refine Z0f ?_
   refine Z0n ?_
   refine Z00 (wp_seq ?_)
   refine wp_region_lit ?_
   have hE := Env.refl a22 [4]
   refine sd 4 hE k (Z01 rfl rfl) ?_
   intro a23 hE e4 kp
   refine wpList_nil ?_
   replace k := k.env hE
   clear hE e0 e1 e7 e8 e9
   refine Z00 ?_
   refine wp_ret ?_
   have hall2 : ∀ v ∈ vs, p v = false := by rw [List.take_of_length_le (by omega)] at hall; exact hall
   refine Z0b rfl k e4 ?_
   exact ⟨_, rfl, by rw [decide_eq_false (by decide)]; exact (List.any_eq_false.2 (fun v hv => by rw [hall2 v hv]; decide)).symm, O.below⟩
set_option maxRecDepth 100000 in
set_option maxHeartbeats 4000000 in
theorem conf_I {A : Option Addr} {ca f : Nat} {lb : Array Value} {vs : List Value} (p : Value → Bool) (W0 : World) (hrow : Row1 W0 A id vs) (hn : vs.length ≤ 1000000000) (eg : ∀ args w, (callFunc f args).run Tryd.prog w = .ok (.enter f args) w) (hp : ∀ v ∈ vs, ∀ w, Below W0.heap.size W0 w → Calls Tryd.prog f (#[v] ++ lb) w fun e w' => e = .returned (.bool (p v)) ∧ Ext w w') : Calls Tryd.prog 27 #[.slice A vs.length ca, .func (.func f) #[] lb] W0 fun e w' => e = .returned (.bool (vs.any p)) ∧ Ext W0 w' := by
 have O := OwnT.start W0
 refine Z0k Tryd.func27 rfl 9 rfl (by rfl) ?_
 intro a1 k hargs
 have e0 : a1.eval (.tmp 0) = .slice A vs.length ca := hargs 0 _ rfl
 have e1 : a1.eval (.tmp 1) = .func (.func f) #[] lb := hargs 1 _ rfl
 clear hargs
 refine wp_seq ?_
 refine wp_region_lit ?_
 have hE := Env.refl a1 [4]
 refine sd 4 hE k (Z01 rfl rfl) ?_
 intro a2 hE e4 kp
 refine wpList_nil ?_
 replace e0 := hE.g e0; replace e1 := hE.g e1
 replace k := k.env hE
 clear hE e4
 refine Z00 (wp_seq ?_)
 refine wp_region_lit ?_
 have hE := Env.refl a2 [5, 6, 7, 8, 4]
 refine zm 5 hE k e0 ?_
 intro a3 hE e5 kp
 refine zm 6 hE k e1 ?_
 intro a4 hE e6 kp
 replace e5 := kt kp e5
 apply Z08 7 hE k rfl (by rfl) (by rfl) rfl
 case h =>
  simp [go_sem, ↓IntWalk.iteOmega, ev e5, ev e6]
  with_reducible exact ⟨rfl, rfl⟩
 case hc => exact idxf_I p _ hrow hn eg hp
 rintro e w6 ⟨r, rfl, hr, RE⟩
 replace O := OwnT.ext O RE
 refine ⟨_, rfl, ?_⟩
 intro a5 hE e7 kp
 refine sd 8 hE k (Z3b rfl e7 rfl) ?_
 intro a7 hE e8 kp
 refine sd 4 hE k (Z01 rfl e8) ?_
 intro a8 hE e4 kp
 refine wpList_nil ?_
 replace k := k.env hE
 clear hE e0 e1
 refine Z00 ?_
 refine wp_ret ?_
 refine Z0b rfl k e4 ?_
 exact ⟨congrArg (fun b => Ending.returned (.bool b)) hr, O.below⟩
set_option maxRecDepth 100000 in
set_option maxHeartbeats 4000000 in
theorem idxf_X {A : Option Addr} {ca f : Nat} {lb : Array Value} {vs : List Value} (p : Value → Bool) (W0 : World) (hrow : Row1 W0 A id vs) (hn : vs.length ≤ 1000000000) (eg : ∀ args w, (callFunc f args).run Tryd.prog w = .ok (.enter f args) w) (hp : ∀ v ∈ vs, ∀ w, Below W0.heap.size W0 w → Calls Tryd.prog f (#[v] ++ lb) w fun e w' => e = .returned (.bool (p v)) ∧ Ext w w') : Calls Tryd.prog 48 #[.slice A vs.length ca, .func (.func f) #[] lb] W0 fun e w' => ∃ r : Int, e = .returned (.int .i64 r) ∧ decide (0 ≤ r) = vs.any p ∧ Ext W0 w' := by
 have O := OwnT.start W0
 refine Z0k Tryd.func48 rfl 19 rfl (by rfl) ?_
 intro a1 k hargs
 have e0 : a1.eval (.tmp 0) = .slice A vs.length ca := hargs 0 _ rfl
 have e1 : a1.eval (.tmp 1) = .func (.func f) #[] lb := hargs 1 _ rfl
 clear hargs
 refine wp_seq ?_
 refine wp_region_lit ?_
 have hE := Env.refl a1 [4]
 refine sd 4 hE k (Z01 rfl rfl) ?_
 intro a2 hE e4 kp
 refine wpList_nil ?_
 replace e0 := hE.g e0; replace e1 := hE.g e1
 replace k := k.env hE
 clear hE e4
 refine Z00 (wp_seq ?_)
 refine wp_seq ?_
 refine wp_region_lit ?_
 have hE := Env.refl a2 [6, 7, 8]
 refine zm 6 hE k e0 ?_
 intro a3 hE e6 kp
 refine sd 7 hE k (Z0d Tryd.underlying22 rfl e6) ?_
 intro a4 hE e7 kp
 refine sd 8 hE k (Z02 rfl rfl) ?_
 intro a5 hE e8 kp
 replace e7 := kt kp e7
 refine wpList_nil ?_
 replace e0 := hE.g e0; replace e1 := hE.g e1
 replace k := k.env hE
 clear hE
 refine Z00 ?_
 refine wp_block ?_
 refine wp_loop (fun a w => Fr 19 a ∧ a.eval (.tmp 0) = .slice A vs.length ca ∧ a.eval (.tmp 1) = .func (.func f) #[] lb ∧ a.eval (.tmp 7) = .int .i64 ↑vs.length ∧ ∃ z : Nat, a.eval (.tmp 8) = .int .i64 ↑z ∧ z ≤ vs.length ∧ (∀ v ∈ vs.take z, p v = false) ∧ OwnT W0.heap.size W0 [] w) (fun a w => vs.length - (intOf (a.eval (.tmp 8))).toNat) ?_ ?_
 · exact ⟨k, e0, e1, e7, 0, e8, Nat.zero_le _, (fun y h => by simp at h), O⟩
 intro a6 w7 hI
 clear k e0 e1 e7
 obtain ⟨k, e0, e1, e7, h_⟩ := hI
 clear O e8
 obtain ⟨z, e8, hz, hall, O⟩ := h_
 have mz := e8
 by_cases hlt : z < vs.length
 · skip
   have hzI : (z : Int) < (vs.length : Int) := by omega
   obtain ⟨v, hv⟩ : ∃ v, vs[z]? = some v := ⟨_, List.getElem?_eq_getElem hlt⟩
   obtain ⟨b, o, hA, hc⟩ := r1_at (w' := W0) hrow hv
   have hcall := hp v (List.mem_of_getElem? hv)
   subst hA
   obtain ⟨bb, hbb⟩ : ∃ b, p v = b := ⟨_, rfl⟩

   refine wp_seq ?_
   refine wp_region_lit ?_
   have hE := Env.refl a6 [9]
   refine sd 9 hE k (Z06 (Z0j rfl (hE.g e8) (hE.g e7)) (decide_eq_true (by omega))) ?_
   intro a8 hE e9 kp
   refine wpList_nil ?_
   replace e0 := hE.g e0; replace e1 := hE.g e1; replace e7 := hE.g e7; replace e8 := hE.g e8
   replace k := k.env hE
   clear hE
   refine Z00 (wp_seq ?_)
   refine Z0a e9 rfl ?_
   refine wp_skip ?_
   refine Z00 (wp_seq ?_)
   refine wp_block ?_
   refine wp_seq ?_
   refine wp_region_lit ?_
   have hE := Env.refl a8 [10, 5]
   refine zm 10 hE k e8 ?_
   intro a9 hE e10 kp
   refine sd 5 hE k (Z01 rfl e10) ?_
   intro a10 hE e5 kp
   refine wpList_nil ?_
   replace e0 := hE.g e0; replace e1 := hE.g e1; replace e7 := hE.g e7; replace e8 := hE.g e8
   replace k := k.env hE
   clear hE e9
   refine Z00 (wp_seq ?_)
   refine wp_region_lit ?_
   have hE := Env.refl a10 [11, 12, 13, 14, 15, 16]
   refine zm 11 hE k e1 ?_
   intro a11 hE e11 kp
   refine zm 12 hE k e0 ?_
   intro a12 hE e12 kp
   replace e11 := kt kp e11
   refine zm 13 hE k e5 ?_
   intro a13 hE e13 kp
   replace e11 := kt kp e11; replace e12 := kt kp e12
   apply Z05 14 hE k rfl rfl rfl rfl
   case h =>
    simp [go_sem, ↓IntWalk.iteOmega, ev e12, ev e13]
    with_reducible rfl
   intro a14 hE e14 kp
   replace e11 := kt kp e11
   apply Z05 15 hE k rfl rfl rfl rfl
   case h =>
    simp [go_sem, ↓IntWalk.iteOmega, ev e14, hc _ O.below]
    with_reducible rfl
   intro a15 hE e15 kp
   replace e11 := kt kp e11
   apply Z08 16 hE k rfl (by rfl) (by rfl) rfl
   case h =>
    exact Z3w rfl e11 e15 (eg _ _)
   case hc => exact hcall _ O.below
   rintro e w17 ⟨he, RE⟩
   replace O := OwnT.ext O RE
   refine ⟨_, he.trans (congrArg (fun b => Ending.returned (.bool b)) hbb), ?_⟩
   intro a16 hE e16 kp
   refine wpList_nil ?_
   replace e0 := hE.g e0; replace e1 := hE.g e1; replace e5 := hE.g e5; replace e7 := hE.g e7; replace e8 := hE.g e8
   replace k := k.env hE
   clear hE
   refine Z00 ?_
   cases bb with
   | true =>
    refine Z0a e16 (rfl) ?_
    clear e0 e1 e7 e8 e16
    refine wp_seq ?_
    refine wp_region_lit ?_
    have hE := Env.refl a16 [17, 4]
    refine zm 17 hE k e5 ?_
    intro a18 hE e17 kp
    refine sd 4 hE k (Z01 rfl e17) ?_
    intro a19 hE e4 kp
    refine wpList_nil ?_
    replace k := k.env hE
    clear hE e5
    refine Z00 ?_
    refine wp_ret ?_
    refine Z0o ?_
    refine Z0c ?_
    refine Z0c ?_
    refine Z0o ?_
    refine Z0c ?_
    refine Z0b rfl k e4 ?_
    exact ⟨_, rfl, by rw [decide_eq_true (by omega)]; exact (List.any_eq_true.2 ⟨v, List.mem_of_getElem? hv, hbb⟩).symm, O.below⟩
   | false =>
    refine Z0e e16 (rfl) ?_
    clear e5 e16
    refine wp_skip ?_
    refine Z0i ?_
    refine Z00 ?_
    refine wp_region_lit ?_
    have hE := Env.refl a16 [18, 8]
    refine sd 18 hE k (Z0z rfl e8 rfl (by omega)) ?_
    intro a20 hE e18 kp
    replace e8 := kt kp e8
    refine sd 8 hE k (Z02 rfl e18) ?_
    intro a21 hE e8 kp
    refine wpList_nil ?_
    replace e0 := hE.g e0; replace e1 := hE.g e1; replace e7 := hE.g e7
    replace k := k.env hE
    clear hE
    refine Z00 ?_
    refine ⟨⟨k, e0, e1, e7, z + 1, e8, by omega, fun u hu => ?_, O⟩, ?_⟩
    · rw [List.take_add_one, hv] at hu; rcases List.mem_append.1 hu with hu | hu
      · exact hall u hu
      · simp at hu; rw [hu]; exact hbb
    · rw [e8, mz]; simp only [intOf]; omega
 · skip
   refine wp_seq ?_
   refine wp_region_lit ?_
   have hE := Env.refl a6 [9]
   refine sd 9 hE k (Z06 (Z0j rfl (hE.g e8) (hE.g e7)) (decide_eq_false (by omega))) ?_
   intro a22 hE e9 kp
   refine wpList_nil ?_
   replace e0 := hE.g e0; replace e1 := hE.g e1; replace e7 := hE.g e7; replace e8 := hE.g e8
   replace k := k.env hE
   clear hE
   refine Z00 (wp_seq ?_)
   refine Z0e e9 rfl ?_
   refine wp_exit ?_
   refine Z0f ?_
   refine Z0f ?_
   refine Z0n ?_
   refine Z00 (wp_seq ?_)
   refine wp_region_lit ?_
   have hE := Env.refl a22 [4]
   refine sd 4 hE k (Z01 rfl rfl) ?_
   intro a23 hE e4 kp
   refine wpList_nil ?_
   replace k := k.env hE
   clear hE e0 e1 e7 e8 e9
   refine Z00 ?_
   refine wp_ret ?_
   have hall2 : ∀ v ∈ vs, p v = false := by rw [List.take_of_length_le (by omega)] at hall; exact hall
   refine Z0b rfl k e4 ?_
   exact ⟨_, rfl, by rw [decide_eq_false (by decide)]; exact (List.any_eq_false.2 (fun v hv => by rw [hall2 v hv]; decide)).symm, O.below⟩
set_option maxRecDepth 100000 in
set_option maxHeartbeats 4000000 in
theorem conf_X {A : Option Addr} {ca f : Nat} {lb : Array Value} {vs : List Value} (p : Value → Bool) (W0 : World) (hrow : Row1 W0 A id vs) (hn : vs.length ≤ 1000000000) (eg : ∀ args w, (callFunc f args).run Tryd.prog w = .ok (.enter f args) w) (hp : ∀ v ∈ vs, ∀ w, Below W0.heap.size W0 w → Calls Tryd.prog f (#[v] ++ lb) w fun e w' => e = .returned (.bool (p v)) ∧ Ext w w') : Calls Tryd.prog 30 #[.slice A vs.length ca, .func (.func f) #[] lb] W0 fun e w' => e = .returned (.bool (vs.any p)) ∧ Ext W0 w' := by
 have O := OwnT.start W0
 refine Z0k Tryd.func30 rfl 9 rfl (by rfl) ?_
 intro a1 k hargs
 have e0 : a1.eval (.tmp 0) = .slice A vs.length ca := hargs 0 _ rfl
 have e1 : a1.eval (.tmp 1) = .func (.func f) #[] lb := hargs 1 _ rfl
 clear hargs
 refine wp_seq ?_
 refine wp_region_lit ?_
 have hE := Env.refl a1 [4]
 refine sd 4 hE k (Z01 rfl rfl) ?_
 intro a2 hE e4 kp
 refine wpList_nil ?_
 replace e0 := hE.g e0; replace e1 := hE.g e1
 replace k := k.env hE
 clear hE e4
 refine Z00 (wp_seq ?_)
 refine wp_region_lit ?_
 have hE := Env.refl a2 [5, 6, 7, 8, 4]
 refine zm 5 hE k e0 ?_
 intro a3 hE e5 kp
 refine zm 6 hE k e1 ?_
 intro a4 hE e6 kp
 replace e5 := kt kp e5
 apply Z08 7 hE k rfl (by rfl) (by rfl) rfl
 case h =>
  simp [go_sem, ↓IntWalk.iteOmega, ev e5, ev e6]
  with_reducible exact ⟨rfl, rfl⟩
 case hc => exact idxf_X p _ hrow hn eg hp
 rintro e w6 ⟨r, rfl, hr, RE⟩
 replace O := OwnT.ext O RE
 refine ⟨_, rfl, ?_⟩
 intro a5 hE e7 kp
 refine sd 8 hE k (Z3b rfl e7 rfl) ?_
 intro a7 hE e8 kp
 refine sd 4 hE k (Z01 rfl e8) ?_
 intro a8 hE e4 kp
 refine wpList_nil ?_
 replace k := k.env hE
 clear hE e0 e1
 refine Z00 ?_
 refine wp_ret ?_
 refine Z0b rfl k e4 ?_
 exact ⟨congrArg (fun b => Ending.returned (.bool b)) hr, O.below⟩
theorem Z4w : ∀ T : List Tx, ((T.map txE).any fun v => match v with | .string b => !goodB b.data.toList | _ => false) = !T.all goodB
 | [] => rfl
 | s :: T => by
  rw [List.map_cons, List.any_cons, Z4w T, List.all_cons, Bool.not_and]
  rfl
/-- A row of strings with one that can't be. -/
theorem Z2t {A : Option Addr} {ca : Nat} {T : List Tx} (W0 : World) (h : TxR W0 A T) (hn : T.length ≤ 1000000000) (hs : ∀ s ∈ T, s.length ≤ 1000000) (hv : VarW W0) : Calls Tryd.prog 34 #[.slice A T.length ca, .func (.func 32) #[] #[]] W0 fun e w' => e = .returned (.bool (!T.all goodB)) ∧ Ext W0 w' := by
 have h1 := conf_S (A := A) (ca := ca) (f := 32) (lb := #[]) (vs := T.map txE) (fun v => match v with | .string b => !goodB b.data.toList | _ => false) W0 (Z3i h) (by rw [List.length_map]; exact hn) (Go.Proofs.enters_of Tryd.func32 (by kernel_rfl) rfl) (fun v hvm w hb => by
  obtain ⟨s, hs1, rfl⟩ := List.mem_map.1 hvm
  exact Z7n s w (hs s hs1) (hv.below hb))
 rw [List.length_map] at h1
 refine h1.mono fun e w' h => ⟨h.1.trans (congrArg (fun b => Ending.returned (.bool b)) ?_), h.2⟩
 exact Z4w T
set_option maxRecDepth 100000 in
set_option maxHeartbeats 4000000 in
theorem Z3f {A : Option Addr} {ca : Nat} {X : List (List Tx)} (W0 : World) (h : TxsR W0 A X) (hn : X.length ≤ 1000000000) (hs : ∀ T ∈ X, T.length ≤ 1000000000 ∧ ∀ s ∈ T, s.length ≤ 1000000) (hv : VarW W0) : Calls Tryd.prog 16 #[.slice A X.length ca] W0 fun e w' => e = .returned (.bool (tableB X)) ∧ Ext W0 w' := by
 have O := OwnT.start W0
 refine Z0k Tryd.func16 rfl 33 rfl (by rfl) ?_
 intro a1 k hargs
 have e0 : a1.eval (.tmp 0) = .slice A X.length ca := hargs 0 _ rfl
 clear hargs
 by_cases hbig : 1000 < X.length
 · skip
   refine wp_seq ?_
   refine wp_region_lit ?_
   have hE := Env.refl a1 [2]
   refine sd 2 hE k (Z01 rfl rfl) ?_
   intro a2 hE e2 kp
   refine wpList_nil ?_
   replace e0 := hE.g e0
   replace k := k.env hE
   clear hE e2
   refine Z00 (wp_seq ?_)
   refine wp_seq ?_
   refine wp_region_lit ?_
   have hE := Env.refl a2 [6, 7, 8]
   refine zm 6 hE k e0 ?_
   intro a3 hE e6 kp
   refine sd 7 hE k (Z0d Tryd.underlying22 rfl e6) ?_
   intro a4 hE e7 kp
   refine sd 8 hE k (Z06 (Z17 rfl e7 rfl) (decide_eq_true (by omega))) ?_
   intro a5 hE e8 kp
   refine wpList_nil ?_
   replace e0 := hE.g e0
   replace k := k.env hE
   clear hE
   refine Z00 ?_
   refine Z0a e8 rfl ?_
   refine wp_seq ?_
   refine wp_region_lit ?_
   have hE := Env.refl a5 [2]
   refine sd 2 hE k (Z01 rfl rfl) ?_
   intro a6 hE e2 kp
   refine wpList_nil ?_
   replace k := k.env hE
   clear hE e0 e8
   refine Z00 ?_
   refine wp_ret ?_
   refine Z0c ?_
   refine Z0b rfl k e2 ?_
   exact ⟨congrArg (fun b => Ending.returned (.bool b)) (show false = tableB X by unfold tableB; rw [decide_eq_false (by omega)]; rfl), O.below⟩
 · obtain ⟨N0, hN0⟩ : ∃ z, (X.headD []).length = z := ⟨_, rfl⟩
   obtain ⟨P, hP⟩ : ∃ P : List Tx → Bool, P = (fun T => decide (T.length = N0) && decide (T.length ≤ 100) && T.all goodB) := ⟨_, rfl⟩
   have htab : tableB X = X.all P := by unfold tableB; rw [decide_eq_true (by omega), hN0, hP]; rfl
   refine wp_seq ?_
   refine wp_region_lit ?_
   have hE := Env.refl a1 [2]
   refine sd 2 hE k (Z01 rfl rfl) ?_
   intro a7 hE e2 kp
   refine wpList_nil ?_
   replace e0 := hE.g e0
   replace k := k.env hE
   clear hE e2
   refine Z00 (wp_seq ?_)
   refine wp_seq ?_
   refine wp_region_lit ?_
   have hE := Env.refl a7 [6, 7, 8]
   refine zm 6 hE k e0 ?_
   intro a8 hE e6 kp
   refine sd 7 hE k (Z0d Tryd.underlying22 rfl e6) ?_
   intro a9 hE e7 kp
   refine sd 8 hE k (Z06 (Z17 rfl e7 rfl) (decide_eq_false (by omega))) ?_
   intro a10 hE e8 kp
   refine wpList_nil ?_
   replace e0 := hE.g e0
   replace k := k.env hE
   clear hE
   refine Z00 ?_
   refine Z0e e8 rfl ?_
   refine wp_skip ?_
   refine Z00 (wp_seq ?_)
   refine wp_region_lit ?_
   have hE := Env.refl a10 [3]
   refine sd 3 hE k (Z01 rfl rfl) ?_
   intro a11 hE e3 kp
   refine wpList_nil ?_
   replace e0 := hE.g e0
   replace k := k.env hE
   clear hE e8
   refine Z00 (wp_seq ?_)
   refine wp_seq ?_
   refine wp_region_lit ?_
   have hE := Env.refl a11 [9, 10, 11]
   refine zm 9 hE k e0 ?_
   intro a12 hE e9 kp
   refine sd 10 hE k (Z0d Tryd.underlying22 rfl e9) ?_
   intro a13 hE e10 kp
   replace e9 := kt kp e9
   refine sd 11 hE k (Z02 rfl rfl) ?_
   intro a14 hE e11 kp
   replace e9 := kt kp e9; replace e10 := kt kp e10
   refine wpList_nil ?_
   replace e0 := hE.g e0; replace e3 := hE.g e3
   replace k := k.env hE
   clear hE
   refine Z00 ?_
   refine wp_block ?_
   refine wp_loop (fun a w => Fr 33 a ∧ a.eval (.tmp 0) = .slice A X.length ca ∧ a.eval (.tmp 3) = .func (.func 32) #[] #[] ∧ a.eval (.tmp 9) = .slice A X.length ca ∧ a.eval (.tmp 10) = .int .i64 ↑X.length ∧ ∃ (i : Nat), a.eval (.tmp 11) = .int .i64 ↑i ∧ i ≤ X.length ∧ (∀ T ∈ X.take i, P T = true) ∧ OwnT W0.heap.size W0 [] w) (fun a w => X.length - (intOf (a.eval (.tmp 11))).toNat) ?_ ?_
   · exact ⟨k, e0, e3, e9, e10, 0, e11, Nat.zero_le _, (fun y h => by simp at h), O⟩
   intro a15 w16 hI
   clear k e0 e3 e9 e10
   obtain ⟨k, e0, e3, e9, e10, h_⟩ := hI
   clear O e11
   obtain ⟨i, e11, hi, hall, O⟩ := h_
   have mi := e11
   by_cases hlt : i < X.length
   · skip
     have hzI : (i : Int) < (X.length : Int) := by omega
     obtain ⟨T, hT⟩ : ∃ T, X[i]? = some T := ⟨_, List.getElem?_eq_getElem hlt⟩
     obtain ⟨T0, hT0⟩ : ∃ T, X[0]? = some T := ⟨_, List.getElem?_eq_getElem (by omega)⟩
     have hN : T0.length = N0 := by rw [← hN0]; cases X with
      | nil => simp at hT0
      | cons x r => simp at hT0; rw [← hT0]; rfl
     obtain ⟨b, o, hA, hsp⟩ := h.spot hT
     obtain ⟨Aj, cj, hr, hc⟩ := hsp i T hT
     obtain ⟨A0, c0, -, hc0⟩ := hsp 0 T0 hT0
     simp only [Nat.add_zero] at hc0
     have hmem := List.mem_of_getElem? hT
     obtain ⟨hs1, hs2⟩ := hs T hmem
     have hs0 := (hs T0 (List.mem_of_getElem? hT0)).1
     subst hA

     by_cases q1 : T.length = N0
     rotate_left
     · skip
       refine wp_seq ?_
       refine wp_region_lit ?_
       have hE := Env.refl a15 [12]
       refine sd 12 hE k (Z06 (Z0j rfl (hE.g e11) (hE.g e10)) (decide_eq_true (by omega))) ?_
       intro a17 hE e12 kp
       refine wpList_nil ?_
       replace e0 := hE.g e0; replace e3 := hE.g e3; replace e9 := hE.g e9; replace e10 := hE.g e10; replace e11 := hE.g e11
       replace k := k.env hE
       clear hE
       refine Z00 (wp_seq ?_)
       refine Z0a e12 rfl ?_
       refine wp_skip ?_
       refine Z00 (wp_seq ?_)
       refine wp_block ?_
       refine wp_seq ?_
       refine wp_region_lit ?_
       have hE := Env.refl a17 [13, 14, 5]
       apply Z05 13 hE k rfl rfl rfl rfl
       case h =>
        simp [go_sem, ↓IntWalk.iteOmega, ev (hE.g e9), ev (hE.g e11)]
        with_reducible rfl
       intro a18 hE e13 kp
       apply Z05 14 hE k rfl rfl rfl rfl
       case h =>
        simp [go_sem, ↓IntWalk.iteOmega, ev e13, hc _ O.below]
        with_reducible rfl
       intro a19 hE e14 kp
       refine sd 5 hE k (Z01 rfl e14) ?_
       intro a20 hE e5 kp
       refine wpList_nil ?_
       replace e0 := hE.g e0; replace e3 := hE.g e3; replace e9 := hE.g e9; replace e10 := hE.g e10; replace e11 := hE.g e11
       replace k := k.env hE
       clear hE e12
       refine Z00 (wp_seq ?_)
       refine wp_region_lit ?_
       have hE := Env.refl a20 [15, 16, 17, 18, 19, 20, 21, 22, 23, 24, 25, 26, 27, 28, 29, 30, 31]
       refine zm 15 hE k e5 ?_
       intro a21 hE e15 kp
       refine sd 16 hE k (Z0d Tryd.underlying36 rfl e15) ?_
       intro a22 hE e16 kp
       refine zm 17 hE k e0 ?_
       intro a23 hE e17 kp
       replace e16 := kt kp e16
       apply Z05 18 hE k rfl rfl rfl rfl
       case h =>
        simp [go_sem, ↓IntWalk.iteOmega, ev e17]
        with_reducible rfl
       intro a24 hE e18 kp
       replace e16 := kt kp e16
       apply Z05 19 hE k rfl rfl rfl rfl
       case h =>
        simp [go_sem, ↓IntWalk.iteOmega, ev e18, hc0 _ O.below]
        with_reducible rfl
       intro a25 hE e19 kp
       replace e16 := kt kp e16
       refine sd 20 hE k (Z0d Tryd.underlying36 rfl e19) ?_
       intro a26 hE e20 kp
       replace e16 := kt kp e16
       refine sd 21 hE k (Z06 (Z12 rfl e16 e20) (decide_eq_true (by omega))) ?_
       intro a27 hE e21 kp
       refine sd 22 hE k (Z02 rfl e21) ?_
       intro a28 hE e22 kp
       refine Z04 23 hE k rfl (by rfl) (by rfl) rfl rfl (.inl e22) ?_
       intro a29 hE e23 kp
       replace e22 := kt kp e22
       refine Z04 24 hE k rfl (by rfl) (by rfl) rfl rfl (.inl e22) ?_
       intro a30 hE e24 kp
       replace e22 := kt kp e22
       refine Z04 25 hE k rfl (by rfl) (by rfl) rfl rfl (.inl e22) ?_
       intro a31 hE e25 kp
       replace e22 := kt kp e22
       refine sd 26 hE k (Z09 rfl e22 rfl) ?_
       intro a32 hE e26 kp
       refine sd 27 hE k (Z02 rfl e26) ?_
       intro a33 hE e27 kp
       refine Z04 28 hE k rfl (by rfl) (by rfl) rfl rfl (.inl e27) ?_
       intro a34 hE e28 kp
       replace e27 := kt kp e27
       refine Z04 29 hE k rfl (by rfl) (by rfl) rfl rfl (.inl e27) ?_
       intro a35 hE e29 kp
       replace e27 := kt kp e27; replace e28 := kt kp e28
       refine Z04 30 hE k rfl (by rfl) (by rfl) rfl rfl (.inl e27) ?_
       intro a36 hE e30 kp
       replace e27 := kt kp e27
       refine sd 31 hE k (Z09 rfl e27 rfl) ?_
       intro a37 hE e31 kp
       refine wpList_nil ?_
       replace e0 := hE.g e0; replace e3 := hE.g e3; replace e9 := hE.g e9; replace e10 := hE.g e10; replace e11 := hE.g e11
       replace k := k.env hE
       clear hE e5
       refine Z00 ?_
       refine Z0a e31 rfl ?_
       refine wp_seq ?_
       refine wp_region_lit ?_
       have hE := Env.refl a37 [2]
       refine sd 2 hE k (Z01 rfl rfl) ?_
       intro a38 hE e2 kp
       refine wpList_nil ?_
       replace k := k.env hE
       clear hE e0 e3 e9 e10 e11 e31
       refine Z00 ?_
       refine wp_ret ?_
       refine Z0o ?_
       refine Z0c ?_
       refine Z0c ?_
       refine Z0o ?_
       refine Z0c ?_
       refine Z0b rfl k e2 ?_
       exact ⟨congrArg (fun b => Ending.returned (.bool b)) (htab.trans (List.all_eq_false.2 ⟨T, hmem, by rw [hP]; simp [q1]⟩)).symm, O.below⟩
     by_cases q2 : T.length ≤ 100
     rotate_left
     · skip
       refine wp_seq ?_
       refine wp_region_lit ?_
       have hE := Env.refl a15 [12]
       refine sd 12 hE k (Z06 (Z0j rfl (hE.g e11) (hE.g e10)) (decide_eq_true (by omega))) ?_
       intro a39 hE e12 kp
       refine wpList_nil ?_
       replace e0 := hE.g e0; replace e3 := hE.g e3; replace e9 := hE.g e9; replace e10 := hE.g e10; replace e11 := hE.g e11
       replace k := k.env hE
       clear hE
       refine Z00 (wp_seq ?_)
       refine Z0a e12 rfl ?_
       refine wp_skip ?_
       refine Z00 (wp_seq ?_)
       refine wp_block ?_
       refine wp_seq ?_
       refine wp_region_lit ?_
       have hE := Env.refl a39 [13, 14, 5]
       apply Z05 13 hE k rfl rfl rfl rfl
       case h =>
        simp [go_sem, ↓IntWalk.iteOmega, ev (hE.g e9), ev (hE.g e11)]
        with_reducible rfl
       intro a40 hE e13 kp
       apply Z05 14 hE k rfl rfl rfl rfl
       case h =>
        simp [go_sem, ↓IntWalk.iteOmega, ev e13, hc _ O.below]
        with_reducible rfl
       intro a41 hE e14 kp
       refine sd 5 hE k (Z01 rfl e14) ?_
       intro a42 hE e5 kp
       refine wpList_nil ?_
       replace e0 := hE.g e0; replace e3 := hE.g e3; replace e9 := hE.g e9; replace e10 := hE.g e10; replace e11 := hE.g e11
       replace k := k.env hE
       clear hE e12
       refine Z00 (wp_seq ?_)
       refine wp_region_lit ?_
       have hE := Env.refl a42 [15, 16, 17, 18, 19, 20, 21, 22, 23, 24, 25, 26, 27, 28, 29, 30, 31]
       refine zm 15 hE k e5 ?_
       intro a43 hE e15 kp
       refine sd 16 hE k (Z0d Tryd.underlying36 rfl e15) ?_
       intro a44 hE e16 kp
       refine zm 17 hE k e0 ?_
       intro a45 hE e17 kp
       replace e16 := kt kp e16
       apply Z05 18 hE k rfl rfl rfl rfl
       case h =>
        simp [go_sem, ↓IntWalk.iteOmega, ev e17]
        with_reducible rfl
       intro a46 hE e18 kp
       replace e16 := kt kp e16
       apply Z05 19 hE k rfl rfl rfl rfl
       case h =>
        simp [go_sem, ↓IntWalk.iteOmega, ev e18, hc0 _ O.below]
        with_reducible rfl
       intro a47 hE e19 kp
       replace e16 := kt kp e16
       refine sd 20 hE k (Z0d Tryd.underlying36 rfl e19) ?_
       intro a48 hE e20 kp
       replace e16 := kt kp e16
       refine sd 21 hE k (Z06 (Z12 rfl e16 e20) (decide_eq_false (by omega))) ?_
       intro a49 hE e21 kp
       refine sd 22 hE k (Z02 rfl e21) ?_
       intro a50 hE e22 kp
       apply Z03 23 hE k rfl rfl rfl rfl rfl e22
       case h =>
        exact Z02 rfl (hE.g e5)
       intro a51 hE e23 kp
       replace e22 := kt kp e22
       apply Z03 24 hE k rfl rfl rfl rfl rfl e22
       case h =>
        exact Z0d Tryd.underlying36 rfl e23
       intro a52 hE e24 kp
       replace e22 := kt kp e22
       apply Z03 25 hE k rfl rfl rfl rfl rfl e22
       case h =>
        exact Z06 (Z17 rfl e24 rfl) (decide_eq_true (by omega))
       intro a53 hE e25 kp
       replace e22 := kt kp e22
       refine sd 26 hE k (Z07 rfl e22 e25) ?_
       intro a54 hE e26 kp
       refine sd 27 hE k (Z02 rfl e26) ?_
       intro a55 hE e27 kp
       refine Z04 28 hE k rfl (by rfl) (by rfl) rfl rfl (.inl e27) ?_
       intro a56 hE e28 kp
       replace e27 := kt kp e27
       refine Z04 29 hE k rfl (by rfl) (by rfl) rfl rfl (.inl e27) ?_
       intro a57 hE e29 kp
       replace e27 := kt kp e27; replace e28 := kt kp e28
       refine Z04 30 hE k rfl (by rfl) (by rfl) rfl rfl (.inl e27) ?_
       intro a58 hE e30 kp
       replace e27 := kt kp e27
       refine sd 31 hE k (Z09 rfl e27 rfl) ?_
       intro a59 hE e31 kp
       refine wpList_nil ?_
       replace e0 := hE.g e0; replace e3 := hE.g e3; replace e9 := hE.g e9; replace e10 := hE.g e10; replace e11 := hE.g e11
       replace k := k.env hE
       clear hE e5
       refine Z00 ?_
       refine Z0a e31 rfl ?_
       refine wp_seq ?_
       refine wp_region_lit ?_
       have hE := Env.refl a59 [2]
       refine sd 2 hE k (Z01 rfl rfl) ?_
       intro a60 hE e2 kp
       refine wpList_nil ?_
       replace k := k.env hE
       clear hE e0 e3 e9 e10 e11 e31
       refine Z00 ?_
       refine wp_ret ?_
       refine Z0o ?_
       refine Z0c ?_
       refine Z0c ?_
       refine Z0o ?_
       refine Z0c ?_
       refine Z0b rfl k e2 ?_
       exact ⟨congrArg (fun b => Ending.returned (.bool b)) (htab.trans (List.all_eq_false.2 ⟨T, hmem, by rw [hP]; simp [q2]⟩)).symm, O.below⟩
     cases q3 : T.all goodB with
     | false =>
      refine wp_seq ?_
      refine wp_region_lit ?_
      have hE := Env.refl a15 [12]
      refine sd 12 hE k (Z06 (Z0j rfl (hE.g e11) (hE.g e10)) (decide_eq_true (by omega))) ?_
      intro a61 hE e12 kp
      refine wpList_nil ?_
      replace e0 := hE.g e0; replace e3 := hE.g e3; replace e9 := hE.g e9; replace e10 := hE.g e10; replace e11 := hE.g e11
      replace k := k.env hE
      clear hE
      refine Z00 (wp_seq ?_)
      refine Z0a e12 rfl ?_
      refine wp_skip ?_
      refine Z00 (wp_seq ?_)
      refine wp_block ?_
      refine wp_seq ?_
      refine wp_region_lit ?_
      have hE := Env.refl a61 [13, 14, 5]
      apply Z05 13 hE k rfl rfl rfl rfl
      case h =>
       simp [go_sem, ↓IntWalk.iteOmega, ev (hE.g e9), ev (hE.g e11)]
       with_reducible rfl
      intro a62 hE e13 kp
      apply Z05 14 hE k rfl rfl rfl rfl
      case h =>
       simp [go_sem, ↓IntWalk.iteOmega, ev e13, hc _ O.below]
       with_reducible rfl
      intro a63 hE e14 kp
      refine sd 5 hE k (Z01 rfl e14) ?_
      intro a64 hE e5 kp
      refine wpList_nil ?_
      replace e0 := hE.g e0; replace e3 := hE.g e3; replace e9 := hE.g e9; replace e10 := hE.g e10; replace e11 := hE.g e11
      replace k := k.env hE
      clear hE e12
      refine Z00 (wp_seq ?_)
      refine wp_region_lit ?_
      have hE := Env.refl a64 [15, 16, 17, 18, 19, 20, 21, 22, 23, 24, 25, 26, 27, 28, 29, 30, 31]
      refine zm 15 hE k e5 ?_
      intro a65 hE e15 kp
      refine sd 16 hE k (Z0d Tryd.underlying36 rfl e15) ?_
      intro a66 hE e16 kp
      refine zm 17 hE k e0 ?_
      intro a67 hE e17 kp
      replace e16 := kt kp e16
      apply Z05 18 hE k rfl rfl rfl rfl
      case h =>
       simp [go_sem, ↓IntWalk.iteOmega, ev e17]
       with_reducible rfl
      intro a68 hE e18 kp
      replace e16 := kt kp e16
      apply Z05 19 hE k rfl rfl rfl rfl
      case h =>
       simp [go_sem, ↓IntWalk.iteOmega, ev e18, hc0 _ O.below]
       with_reducible rfl
      intro a69 hE e19 kp
      replace e16 := kt kp e16
      refine sd 20 hE k (Z0d Tryd.underlying36 rfl e19) ?_
      intro a70 hE e20 kp
      replace e16 := kt kp e16
      refine sd 21 hE k (Z06 (Z12 rfl e16 e20) (decide_eq_false (by omega))) ?_
      intro a71 hE e21 kp
      refine sd 22 hE k (Z02 rfl e21) ?_
      intro a72 hE e22 kp
      apply Z03 23 hE k rfl rfl rfl rfl rfl e22
      case h =>
       exact Z02 rfl (hE.g e5)
      intro a73 hE e23 kp
      replace e22 := kt kp e22
      apply Z03 24 hE k rfl rfl rfl rfl rfl e22
      case h =>
       exact Z0d Tryd.underlying36 rfl e23
      intro a74 hE e24 kp
      replace e22 := kt kp e22
      apply Z03 25 hE k rfl rfl rfl rfl rfl e22
      case h =>
       exact Z06 (Z17 rfl e24 rfl) (decide_eq_false (by omega))
      intro a75 hE e25 kp
      replace e22 := kt kp e22
      refine sd 26 hE k (Z07 rfl e22 e25) ?_
      intro a76 hE e26 kp
      refine sd 27 hE k (Z02 rfl e26) ?_
      intro a77 hE e27 kp
      apply Z03 28 hE k rfl rfl rfl rfl rfl e27
      case h =>
       exact Z02 rfl (hE.g e5)
      intro a78 hE e28 kp
      replace e27 := kt kp e27
      apply Z03 29 hE k rfl rfl rfl rfl rfl e27
      case h =>
       exact Z02 rfl (hE.g e3)
      intro a79 hE e29 kp
      replace e27 := kt kp e27; replace e28 := kt kp e28
      apply Z10 30 hE k rfl (by rfl) (by rfl) rfl rfl e27
      case h =>
       simp [go_sem, ↓IntWalk.iteOmega, ev e28, ev e29]
       with_reducible exact ⟨rfl, rfl⟩
      case hc => exact Z2t _ (hr.below O.below) hs1 hs2 (hv.below O.below)
      rintro e w81 ⟨he, RE⟩
      replace O := OwnT.ext O RE
      refine ⟨_, he.trans (congrArg (fun b => Ending.returned (.bool b)) (congrArg not q3)), ?_⟩
      intro a80 hE e30 kp
      replace e27 := kt kp e27
      refine sd 31 hE k (Z07 rfl e27 e30) ?_
      intro a82 hE e31 kp
      refine wpList_nil ?_
      replace e0 := hE.g e0; replace e3 := hE.g e3; replace e9 := hE.g e9; replace e10 := hE.g e10; replace e11 := hE.g e11
      replace k := k.env hE
      clear hE e5
      refine Z00 ?_
      refine Z0a e31 rfl ?_
      refine wp_seq ?_
      refine wp_region_lit ?_
      have hE := Env.refl a82 [2]
      refine sd 2 hE k (Z01 rfl rfl) ?_
      intro a83 hE e2 kp
      refine wpList_nil ?_
      replace k := k.env hE
      clear hE e0 e3 e9 e10 e11 e31
      refine Z00 ?_
      refine wp_ret ?_
      refine Z0o ?_
      refine Z0c ?_
      refine Z0c ?_
      refine Z0o ?_
      refine Z0c ?_
      refine Z0b rfl k e2 ?_
      exact ⟨congrArg (fun b => Ending.returned (.bool b)) (htab.trans (List.all_eq_false.2 ⟨T, hmem, by rw [hP]; simp [q3]⟩)).symm, O.below⟩
     | true =>
      refine wp_seq ?_
      refine wp_region_lit ?_
      have hE := Env.refl a15 [12]
      refine sd 12 hE k (Z06 (Z0j rfl (hE.g e11) (hE.g e10)) (decide_eq_true (by omega))) ?_
      intro a84 hE e12 kp
      refine wpList_nil ?_
      replace e0 := hE.g e0; replace e3 := hE.g e3; replace e9 := hE.g e9; replace e10 := hE.g e10; replace e11 := hE.g e11
      replace k := k.env hE
      clear hE
      refine Z00 (wp_seq ?_)
      refine Z0a e12 rfl ?_
      refine wp_skip ?_
      refine Z00 (wp_seq ?_)
      refine wp_block ?_
      refine wp_seq ?_
      refine wp_region_lit ?_
      have hE := Env.refl a84 [13, 14, 5]
      apply Z05 13 hE k rfl rfl rfl rfl
      case h =>
       simp [go_sem, ↓IntWalk.iteOmega, ev (hE.g e9), ev (hE.g e11)]
       with_reducible rfl
      intro a85 hE e13 kp
      apply Z05 14 hE k rfl rfl rfl rfl
      case h =>
       simp [go_sem, ↓IntWalk.iteOmega, ev e13, hc _ O.below]
       with_reducible rfl
      intro a86 hE e14 kp
      refine sd 5 hE k (Z01 rfl e14) ?_
      intro a87 hE e5 kp
      refine wpList_nil ?_
      replace e0 := hE.g e0; replace e3 := hE.g e3; replace e9 := hE.g e9; replace e10 := hE.g e10; replace e11 := hE.g e11
      replace k := k.env hE
      clear hE e12
      refine Z00 (wp_seq ?_)
      refine wp_region_lit ?_
      have hE := Env.refl a87 [15, 16, 17, 18, 19, 20, 21, 22, 23, 24, 25, 26, 27, 28, 29, 30, 31]
      refine zm 15 hE k e5 ?_
      intro a88 hE e15 kp
      refine sd 16 hE k (Z0d Tryd.underlying36 rfl e15) ?_
      intro a89 hE e16 kp
      refine zm 17 hE k e0 ?_
      intro a90 hE e17 kp
      replace e16 := kt kp e16
      apply Z05 18 hE k rfl rfl rfl rfl
      case h =>
       simp [go_sem, ↓IntWalk.iteOmega, ev e17]
       with_reducible rfl
      intro a91 hE e18 kp
      replace e16 := kt kp e16
      apply Z05 19 hE k rfl rfl rfl rfl
      case h =>
       simp [go_sem, ↓IntWalk.iteOmega, ev e18, hc0 _ O.below]
       with_reducible rfl
      intro a92 hE e19 kp
      replace e16 := kt kp e16
      refine sd 20 hE k (Z0d Tryd.underlying36 rfl e19) ?_
      intro a93 hE e20 kp
      replace e16 := kt kp e16
      refine sd 21 hE k (Z06 (Z12 rfl e16 e20) (decide_eq_false (by omega))) ?_
      intro a94 hE e21 kp
      refine sd 22 hE k (Z02 rfl e21) ?_
      intro a95 hE e22 kp
      apply Z03 23 hE k rfl rfl rfl rfl rfl e22
      case h =>
       exact Z02 rfl (hE.g e5)
      intro a96 hE e23 kp
      replace e22 := kt kp e22
      apply Z03 24 hE k rfl rfl rfl rfl rfl e22
      case h =>
       exact Z0d Tryd.underlying36 rfl e23
      intro a97 hE e24 kp
      replace e22 := kt kp e22
      apply Z03 25 hE k rfl rfl rfl rfl rfl e22
      case h =>
       exact Z06 (Z17 rfl e24 rfl) (decide_eq_false (by omega))
      intro a98 hE e25 kp
      replace e22 := kt kp e22
      refine sd 26 hE k (Z07 rfl e22 e25) ?_
      intro a99 hE e26 kp
      refine sd 27 hE k (Z02 rfl e26) ?_
      intro a100 hE e27 kp
      apply Z03 28 hE k rfl rfl rfl rfl rfl e27
      case h =>
       exact Z02 rfl (hE.g e5)
      intro a101 hE e28 kp
      replace e27 := kt kp e27
      apply Z03 29 hE k rfl rfl rfl rfl rfl e27
      case h =>
       exact Z02 rfl (hE.g e3)
      intro a102 hE e29 kp
      replace e27 := kt kp e27; replace e28 := kt kp e28
      apply Z10 30 hE k rfl (by rfl) (by rfl) rfl rfl e27
      case h =>
       simp [go_sem, ↓IntWalk.iteOmega, ev e28, ev e29]
       with_reducible exact ⟨rfl, rfl⟩
      case hc => exact Z2t _ (hr.below O.below) hs1 hs2 (hv.below O.below)
      rintro e w104 ⟨he, RE⟩
      replace O := OwnT.ext O RE
      refine ⟨_, he.trans (congrArg (fun b => Ending.returned (.bool b)) (congrArg not q3)), ?_⟩
      intro a103 hE e30 kp
      replace e27 := kt kp e27
      refine sd 31 hE k (Z07 rfl e27 e30) ?_
      intro a105 hE e31 kp
      refine wpList_nil ?_
      replace e0 := hE.g e0; replace e3 := hE.g e3; replace e9 := hE.g e9; replace e10 := hE.g e10; replace e11 := hE.g e11
      replace k := k.env hE
      clear hE e5
      refine Z00 ?_
      refine Z0e e31 rfl ?_
      refine wp_skip ?_
      refine Z0i ?_
      refine Z00 ?_
      refine wp_region_lit ?_
      have hE := Env.refl a105 [32, 11]
      refine sd 32 hE k (Z0z rfl e11 rfl (by omega)) ?_
      intro a106 hE e32 kp
      replace e11 := kt kp e11
      refine sd 11 hE k (Z02 rfl e32) ?_
      intro a107 hE e11 kp
      refine wpList_nil ?_
      replace e0 := hE.g e0; replace e3 := hE.g e3; replace e9 := hE.g e9; replace e10 := hE.g e10
      replace k := k.env hE
      clear hE e31
      refine Z00 ?_
      refine ⟨⟨k, e0, e3, e9, e10, i + 1, e11, by omega, fun u hu => ?_, O⟩, ?_⟩
      · rw [List.take_add_one, hT] at hu; rcases List.mem_append.1 hu with hu | hu
        · exact hall u hu
        · simp at hu; rw [hu, hP]; show (decide (T.length = N0) && decide (T.length ≤ 100) && T.all goodB) = true; rw [decide_eq_true q1, decide_eq_true q2, q3]; rfl
      · rw [e11, mi]; simp only [intOf]; omega
   · skip
     refine wp_seq ?_
     refine wp_region_lit ?_
     have hE := Env.refl a15 [12]
     refine sd 12 hE k (Z06 (Z0j rfl (hE.g e11) (hE.g e10)) (decide_eq_false (by omega))) ?_
     intro a108 hE e12 kp
     refine wpList_nil ?_
     replace e0 := hE.g e0; replace e3 := hE.g e3; replace e9 := hE.g e9; replace e10 := hE.g e10; replace e11 := hE.g e11
     replace k := k.env hE
     clear hE
     refine Z00 (wp_seq ?_)
     refine Z0e e12 rfl ?_
     refine wp_exit ?_
     refine Z0f ?_
     refine Z0f ?_
     refine Z0n ?_
     refine Z00 (wp_seq ?_)
     refine wp_region_lit ?_
     have hE := Env.refl a108 [2]
     refine sd 2 hE k (Z01 rfl rfl) ?_
     intro a109 hE e2 kp
     refine wpList_nil ?_
     replace k := k.env hE
     clear hE e0 e3 e9 e10 e11 e12
     refine Z00 ?_
     refine wp_ret ?_
     rw [List.take_of_length_le (by omega)] at hall
     refine Z0b rfl k e2 ?_
     exact ⟨congrArg (fun b => Ending.returned (.bool b)) (htab.trans (List.all_eq_true.2 hall)).symm, O.below⟩
end Go.Proofs.YtgdlnfljfiageaaDoor
