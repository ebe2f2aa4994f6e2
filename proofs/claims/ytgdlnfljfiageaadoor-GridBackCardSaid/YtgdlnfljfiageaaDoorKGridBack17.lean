/- grids: Cells (printed by XGrG.gen.py). -/
import Derived.Test.YtgdlnfljfiageaaDoorKGridBack16
namespace Go.Proofs.YtgdlnfljfiageaaDoor
attribute [local simp] BigFrame.eval_const BigFrame.eval_global BigFrame.eval_func
set_option linter.unusedVariables false
set_option linter.unusedSimpArgs false
open Go.RowKit

/-- Widths that can't be; which text is one of these cells. -/
def badN (n : Int) : Bool := decide (n < 0 ∨ 1000 < n)
def badW (xs : List Int) : Bool := decide (xs.length = 0) || decide (100 < xs.length) || xs.any badN
def wdsL (X : List (List Tx)) (m : Nat) : List Int := (List.range m).map fun k => ((colW X k : Nat) : Int)
def okC (s : Tx) (xs : List Int) : Bool := (partL s).all (fun T => decide (T.length = xs.length)) && decide (wdsL (partL s) xs.length = xs) && tableB (partL s) && decide (textL (partL s) = s)
theorem part_sz (s : Tx) : (partL s).length ≤ s.length ∧ ∀ T ∈ partL s, T.length ≤ s.length + 1 := by
 refine ⟨by unfold partL; rw [List.length_map]; exact Z2e s.length s (Nat.le_refl _), fun T hT => ?_⟩
 obtain ⟨x, hx, rfl⟩ := List.mem_map.1 hT
 have h1 := Z2d s.length s (Nat.le_refl _) x hx
 have h2 := Z80 (Lib.trimSuffix x [10])
 have h3 := Z2l x [10]
 unfold cellsL
 rw [List.length_map]
 omega
theorem Z7z (xs : List Int) : ((xs.map (Value.int .i64)).any fun v => match v with | .int _ n => badN n | _ => false) = xs.any badN := by
 rw [List.any_map]
 rfl

theorem Z7x (n : Int) (W0 : World) : Calls Tryd.prog 26 #[.int .i64 n] W0 fun e w' => e = .returned (.bool (badN n)) ∧ W0 = w' := by
 refine Z0k Tryd.func26 rfl 9 rfl (by rfl) ?_
 intro a1 k hargs
 have e0 : a1.eval (.tmp 0) = .int .i64 n := hargs 0 _ rfl
 clear hargs
 by_cases h1 : n < 0
 · skip
   refine wp_seq ?_
   refine wp_region_lit ?_
   have hE := Env.refl a1 [2]
   refine sd 2 hE k (Z01 rfl rfl) ?_
   intro a2 hE e2 kp
   refine wpList_nil ?_
   replace e0 := hE.g e0
   replace k := k.env hE
   clear hE e2
   refine Z00 (wp_seq ?_)
   refine wp_region_lit ?_
   have hE := Env.refl a2 [3, 4, 5, 6, 7, 8, 2]
   refine zm 3 hE k e0 ?_
   intro a3 hE e3 kp
   refine sd 4 hE k (Z06 (Z0j rfl e3 rfl) (decide_eq_true (by omega))) ?_
   intro a4 hE e4 kp
   refine sd 5 hE k (Z02 rfl e4) ?_
   intro a5 hE e5 kp
   refine Z04 6 hE k rfl (by rfl) (by rfl) rfl rfl (.inl e5) ?_
   intro a6 hE e6 kp
   replace e5 := kt kp e5
   refine Z04 7 hE k rfl (by rfl) (by rfl) rfl rfl (.inl e5) ?_
   intro a7 hE e7 kp
   replace e5 := kt kp e5
   refine sd 8 hE k (Z09 rfl e5 rfl) ?_
   intro a8 hE e8 kp
   refine sd 2 hE k (Z01 rfl e8) ?_
   intro a9 hE e2 kp
   refine wpList_nil ?_
   replace k := k.env hE
   clear hE e0
   refine Z00 ?_
   refine wp_ret ?_
   refine Z0b rfl k e2 ?_
   exact ⟨congrArg (fun b => Ending.returned (.bool b)) (decide_eq_true (.inl h1)).symm, rfl⟩
 · by_cases h2 : 1000 < n
   · skip
     refine wp_seq ?_
     refine wp_region_lit ?_
     have hE := Env.refl a1 [2]
     refine sd 2 hE k (Z01 rfl rfl) ?_
     intro a10 hE e2 kp
     refine wpList_nil ?_
     replace e0 := hE.g e0
     replace k := k.env hE
     clear hE e2
     refine Z00 (wp_seq ?_)
     refine wp_region_lit ?_
     have hE := Env.refl a10 [3, 4, 5, 6, 7, 8, 2]
     refine zm 3 hE k e0 ?_
     intro a11 hE e3 kp
     refine sd 4 hE k (Z06 (Z0j rfl e3 rfl) (decide_eq_false (by omega))) ?_
     intro a12 hE e4 kp
     refine sd 5 hE k (Z02 rfl e4) ?_
     intro a13 hE e5 kp
     apply Z03 6 hE k rfl rfl rfl rfl rfl e5
     case h =>
      exact Z02 rfl (hE.g e0)
     intro a14 hE e6 kp
     replace e5 := kt kp e5
     apply Z03 7 hE k rfl rfl rfl rfl rfl e5
     case h =>
      exact Z06 (Z17 rfl e6 rfl) (decide_eq_true (by omega))
     intro a15 hE e7 kp
     replace e5 := kt kp e5
     refine sd 8 hE k (Z07 rfl e5 e7) ?_
     intro a16 hE e8 kp
     refine sd 2 hE k (Z01 rfl e8) ?_
     intro a17 hE e2 kp
     refine wpList_nil ?_
     replace k := k.env hE
     clear hE e0
     refine Z00 ?_
     refine wp_ret ?_
     refine Z0b rfl k e2 ?_
     exact ⟨congrArg (fun b => Ending.returned (.bool b)) (decide_eq_true (.inr h2)).symm, rfl⟩
   · skip
     refine wp_seq ?_
     refine wp_region_lit ?_
     have hE := Env.refl a1 [2]
     refine sd 2 hE k (Z01 rfl rfl) ?_
     intro a18 hE e2 kp
     refine wpList_nil ?_
     replace e0 := hE.g e0
     replace k := k.env hE
     clear hE e2
     refine Z00 (wp_seq ?_)
     refine wp_region_lit ?_
     have hE := Env.refl a18 [3, 4, 5, 6, 7, 8, 2]
     refine zm 3 hE k e0 ?_
     intro a19 hE e3 kp
     refine sd 4 hE k (Z06 (Z0j rfl e3 rfl) (decide_eq_false (by omega))) ?_
     intro a20 hE e4 kp
     refine sd 5 hE k (Z02 rfl e4) ?_
     intro a21 hE e5 kp
     apply Z03 6 hE k rfl rfl rfl rfl rfl e5
     case h =>
      exact Z02 rfl (hE.g e0)
     intro a22 hE e6 kp
     replace e5 := kt kp e5
     apply Z03 7 hE k rfl rfl rfl rfl rfl e5
     case h =>
      exact Z06 (Z17 rfl e6 rfl) (decide_eq_false (by omega))
     intro a23 hE e7 kp
     replace e5 := kt kp e5
     refine sd 8 hE k (Z07 rfl e5 e7) ?_
     intro a24 hE e8 kp
     refine sd 2 hE k (Z01 rfl e8) ?_
     intro a25 hE e2 kp
     refine wpList_nil ?_
     replace k := k.env hE
     clear hE e0
     refine Z00 ?_
     refine wp_ret ?_
     refine Z0b rfl k e2 ?_
     exact ⟨congrArg (fun b => Ending.returned (.bool b)) (decide_eq_false (fun h => h.elim h1 h2)).symm, rfl⟩
theorem Z65 {Aj AL : Option Addr} {n cj m cl lb : Nat} (W0 : World) (c0 : W0.cell? ⟨lb, 0, none⟩ = some (.slice AL m cl)) : Calls Tryd.prog 29 #[.slice Aj n cj, .pointer (some ⟨lb, 0, none⟩)] W0 fun e w' => e = .returned (.bool (decide (n ≠ m))) ∧ W0 = w' := by
 refine Z0k Tryd.func29 rfl 9 rfl (by rfl) ?_
 intro a1 k hargs
 have e0 : a1.eval (.tmp 0) = .slice Aj n cj := hargs 0 _ rfl
 have e1 : a1.eval (.tmp 1) = .pointer (some ⟨lb, 0, none⟩) := hargs 1 _ rfl
 clear hargs
 refine wp_seq ?_
 refine wp_region_lit ?_
 have hE := Env.refl a1 [3]
 refine sd 3 hE k (Z01 rfl rfl) ?_
 intro a2 hE e3 kp
 refine wpList_nil ?_
 replace e0 := hE.g e0; replace e1 := hE.g e1
 replace k := k.env hE
 clear hE e3
 refine Z00 (wp_seq ?_)
 refine wp_region_lit ?_
 have hE := Env.refl a2 [4, 5, 6, 7, 8, 3]
 refine zm 4 hE k e0 ?_
 intro a3 hE e4 kp
 refine sd 5 hE k (Z0d Tryd.underlying36 rfl e4) ?_
 intro a4 hE e5 kp
 apply Z05 6 hE k rfl rfl rfl rfl
 case h =>
  simp [go_sem, ↓IntWalk.iteOmega, ev (hE.g e1), c0]
  with_reducible rfl
 intro a5 hE e6 kp
 replace e5 := kt kp e5
 refine sd 7 hE k (Z0d Tryd.underlying33 rfl e6) ?_
 intro a6 hE e7 kp
 replace e5 := kt kp e5
 refine sd 8 hE k (Z12 rfl e5 e7) ?_
 intro a7 hE e8 kp
 refine sd 3 hE k (Z01 rfl e8) ?_
 intro a8 hE e3 kp
 refine wpList_nil ?_
 replace k := k.env hE
 clear hE e0 e1
 refine Z00 ?_
 refine wp_ret ?_
 refine Z0b rfl k e3 ?_
 exact ⟨congrArg (fun b => Ending.returned (.bool b)) (decide_eq_decide.2 (by omega)), rfl⟩
theorem Z2c {A AL : Option Addr} {ca m cl lb : Nat} {X : List (List Tx)} (W0 : World) (h : TxsR W0 A X) (hn : X.length ≤ 1000000) (c0 : W0.cell? ⟨lb, 0, none⟩ = some (.slice AL m cl)) : Calls Tryd.prog 30 #[.slice A X.length ca, .func (.func 29) #[] #[.pointer (some ⟨lb, 0, none⟩)]] W0 fun e w' => e = .returned (.bool (!X.all fun T => decide (T.length = m))) ∧ Ext W0 w' := by
 obtain ⟨vs, hl, hrow, hv⟩ := Z71 h
 have hlt : lb < W0.heap.size := by
  rcases Nat.lt_or_ge lb W0.heap.size with h1 | h1
  · exact h1
  · simp [World.cell?, Array.getElem?_eq_none h1] at c0
 have h1 := conf_X (A := A) (ca := ca) (f := 29) (lb := #[.pointer (some ⟨lb, 0, none⟩)]) (vs := vs) (fun v => match v with | .slice _ n _ => decide (n ≠ m) | _ => false) W0 hrow (by omega) (Go.Proofs.enters_of Tryd.func29 (by kernel_rfl) rfl) (fun v hvm w hb => by
  obtain ⟨i, hi⟩ := List.getElem?_of_mem hvm
  obtain ⟨T, Aj, cj, _, rfl, _⟩ := hv i v hi
  exact (Z65 w ((hb.cell (p := ⟨lb, 0, none⟩) hlt).trans c0)).mono fun e w' h => ⟨h.1, by rw [← h.2]; exact Ext.refl _⟩)
 rw [hl] at h1
 refine h1.mono fun e w' h => ⟨h.1.trans (congrArg (fun b => Ending.returned (.bool b)) ?_), h.2⟩
 rw [Bool.eq_iff_iff, List.any_eq_true, Bool.not_eq_true', List.all_eq_false]
 constructor
 · rintro ⟨v, hvm, hp⟩
   obtain ⟨i, hi⟩ := List.getElem?_of_mem hvm
   obtain ⟨T, Aj, cj, hT, rfl, _⟩ := hv i v hi
   exact ⟨T, List.mem_of_getElem? hT, by simpa using hp⟩
 · rintro ⟨T, hTm, hp⟩
   obtain ⟨i, hi⟩ := List.getElem?_of_mem hTm
   have hil := (List.getElem?_eq_some_iff.1 hi).1
   obtain ⟨v, hvi⟩ : ∃ v, vs[i]? = some v := ⟨_, List.getElem?_eq_getElem (by omega)⟩
   obtain ⟨T', Aj, cj, hT', rfl, _⟩ := hv i v hvi
   rw [hi] at hT'
   injection hT' with hT'
   subst hT'
   exact ⟨_, List.mem_of_getElem? hvi, by simpa using hp⟩
theorem Z4v {A : Option Addr} {ca : Nat} {xs : List Int} (W0 : World) (h : Row1 W0 A (Value.int .i64) xs) (hn : xs.length ≤ 1000000) : Calls Tryd.prog 27 #[.slice A xs.length ca, .func (.func 26) #[] #[]] W0 fun e w' => e = .returned (.bool (xs.any badN)) ∧ Ext W0 w' := by
 have h1 := conf_I (A := A) (ca := ca) (f := 26) (lb := #[]) (vs := xs.map (Value.int .i64)) (fun v => match v with | .int _ n => badN n | _ => false) W0 (Z3i h) (by rw [List.length_map]; omega) (Go.Proofs.enters_of Tryd.func26 (by kernel_rfl) rfl) (fun v hvm w hb => by
  obtain ⟨x, _, rfl⟩ := List.mem_map.1 hvm
  exact (Z7x x w).mono fun e w' h => ⟨h.1, by rw [← h.2]; exact Ext.refl _⟩)
 rw [List.length_map, Z7z] at h1
 exact h1
theorem Z6x {m : Nat} {X : List (List Tx)} {g : Nat} {w : World} (h : (tBlk g 3 (wsC m (colW X))).holds w) : ∀ j, j < (wdsL X m).length → w.cell? ⟨g, 0 + j, none⟩ = some (.int .i64 ((wdsL X m).getD j 0)) := by
 intro j hj
 have hjm : j < m := by simpa [wdsL] using hj
 rw [Nat.zero_add, (show Blk _ _ _ _ from h).cell j, Z47 hjm]
 simp [wdsL, List.getD, hjm]
theorem Z6f {A : Option Addr} {ca g m : Nat} {X : List (List Tx)} {xs : List Int} (W0 : World) (h : Row1 W0 A (Value.int .i64) xs) (hx : xs.length = m) (hm : 0 < m) (hm2 : m ≤ 1000) (hg : (tBlk g 3 (wsC m (colW X))).holds W0) : Calls Tryd.prog 31 #[.slice (some ⟨g, 0, none⟩) m m, .slice A xs.length ca] W0 fun e w' => e = .returned (.bool (decide (wdsL X m = xs))) ∧ Ext W0 w' := by
 obtain ⟨x0, h0⟩ : ∃ x, xs[0]? = some x := ⟨_, List.getElem?_eq_getElem (by omega)⟩
 obtain ⟨b, o, rfl, _, _⟩ := h 0 x0 h0
 have hwl : (wdsL X m).length = m := by simp [wdsL]
 have h1 := Tryd.slices_Equal_int g 0 m m b o xs.length ca (wdsL X m) xs W0 (by omega) (Nat.le_refl _) (by omega) (by omega) (Z6x hg) (fun j hj => by
  obtain ⟨b', o', e, _, hc⟩ := h j _ (List.getElem?_eq_getElem hj)
  injection e with e
  injection e with e1 e2
  subst e1 e2
  rw [hc]
  simp [List.getD, hj])
 refine h1.mono fun e w' h => ⟨h.1.trans (congrArg (fun b => Ending.returned (.bool b)) ?_), ?_⟩
 · rw [List.take_of_length_le (by omega), List.take_of_length_le (Nat.le_refl _)]
   rw [Bool.eq_iff_iff, beq_iff_eq, decide_eq_true_eq]
 · obtain ⟨q, rfl⟩ := h.2
   exact below_drewNg W0 q

set_option maxRecDepth 100000 in
set_option maxHeartbeats 4000000 in
theorem Z1l {A : Option Addr} {ca : Nat} {xs : List Int} (s : Tx) (W0 : World) (h : Row1 W0 A (Value.int .i64) xs) (hn : xs.length ≤ 1000000) (hs : s.length ≤ 100000) (hcs : ∀ T ∈ partL s, ∀ c ∈ T, c.length ≤ 1000) (hv : VarW W0) : Calls Tryd.prog 15 #[.string (sB s), .slice A xs.length ca] W0 fun e w' => (badW xs = true ∧ e = .returned (.tuple #[.slice none 0 0, .int .i64 1]) ∨ badW xs = false ∧ okC s xs = false ∧ e = .returned (.tuple #[.slice none 0 0, .int .i64 3]) ∨ badW xs = false ∧ okC s xs = true ∧ ∃ B cap, e = .returned (.tuple #[.slice B (partL s).length cap, .int .i64 0]) ∧ TxsR w' B (partL s)) ∧ Ext W0 w' := by
 have O := OwnT.start W0
 obtain ⟨hsz1, hsz2⟩ := part_sz s
 refine Z0k Tryd.func15 rfl 52 rfl (by rfl) ?_
 intro a1 k hargs
 have e0 : a1.eval (.tmp 0) = .string (sB s) := hargs 0 _ rfl
 have e1 : a1.eval (.tmp 1) = .slice A xs.length ca := hargs 1 _ rfl
 clear hargs
 refine wp_seq ?_
 refine wp_region_lit ?_
 have hE := Env.refl a1 [3, 4, 5]
 refine Z3g O (cs := #[.slice A xs.length ca]) (t := 33) 3 hE k rfl (by rfl) (by rfl) rfl (by simp [go_sem, ↓IntWalk.iteOmega, ev (hE.g e1)]) ?_
 clear O
 intro lb a2 w3 O hE e3 kp
 refine sd 4 hE k (Z01 rfl rfl) ?_
 intro a4 hE e4 kp
 replace e3 := kt kp e3
 refine sd 5 hE k (Z01 rfl rfl) ?_
 intro a5 hE e5 kp
 replace e3 := kt kp e3
 refine wpList_nil ?_
 replace e0 := hE.g e0
 replace k := k.env hE
 clear hE e1 e5
 refine Z00 (wp_seq ?_)
 refine wp_region_lit ?_
 have hE := Env.refl a5 [6]
 refine sd 6 hE k (Z01 rfl rfl) ?_
 intro a6 hE e6 kp
 refine wpList_nil ?_
 replace e0 := hE.g e0; replace e3 := hE.g e3
 replace k := k.env hE
 clear hE
 refine Z00 ?_
 by_cases b1 : xs.length = 0
 · skip
   refine wp_seq ?_
   refine wp_seq ?_
   refine wp_region_lit ?_
   have hE := Env.refl a6 [11, 12, 13, 14, 15, 16, 17, 18, 19, 20, 21, 22, 23]
   apply Z05 11 hE k rfl rfl rfl rfl
   case h =>
    have q0 : w3.cell? ⟨lb, 0, none⟩ = some (.slice A xs.length ca) := (OwnT.blk O 0 rfl).cell 0
    simp [go_sem, ↓IntWalk.iteOmega, ev (hE.g e3), q0]
    with_reducible rfl
   intro a7 hE e11 kp
   refine sd 12 hE k (Z0d Tryd.underlying33 rfl e11) ?_
   intro a8 hE e12 kp
   refine sd 13 hE k (Z06 (Z18 rfl e12 rfl) (decide_eq_true (by omega))) ?_
   intro a9 hE e13 kp
   refine sd 14 hE k (Z02 rfl e13) ?_
   intro a10 hE e14 kp
   refine Z04 15 hE k rfl (by rfl) (by rfl) rfl rfl (.inl e14) ?_
   intro a11 hE e15 kp
   replace e14 := kt kp e14
   refine Z04 16 hE k rfl (by rfl) (by rfl) rfl rfl (.inl e14) ?_
   intro a12 hE e16 kp
   replace e14 := kt kp e14
   refine Z04 17 hE k rfl (by rfl) (by rfl) rfl rfl (.inl e14) ?_
   intro a13 hE e17 kp
   replace e14 := kt kp e14
   refine sd 18 hE k (Z09 rfl e14 rfl) ?_
   intro a14 hE e18 kp
   refine sd 19 hE k (Z02 rfl e18) ?_
   intro a15 hE e19 kp
   refine Z04 20 hE k rfl (by rfl) (by rfl) rfl rfl (.inl e19) ?_
   intro a16 hE e20 kp
   replace e19 := kt kp e19
   refine Z04 21 hE k rfl (by rfl) (by rfl) rfl rfl (.inl e19) ?_
   intro a17 hE e21 kp
   replace e19 := kt kp e19; replace e20 := kt kp e20
   refine Z04 22 hE k rfl (by rfl) (by rfl) rfl rfl (.inl e19) ?_
   intro a18 hE e22 kp
   replace e19 := kt kp e19
   refine sd 23 hE k (Z09 rfl e19 rfl) ?_
   intro a19 hE e23 kp
   refine wpList_nil ?_
   replace e0 := hE.g e0; replace e3 := hE.g e3
   replace k := k.env hE
   clear hE e6
   refine Z00 ?_
   refine Z0a e23 rfl ?_
   refine wp_seq ?_
   refine wp_region_lit ?_
   have hE := Env.refl a19 [4, 5]
   refine sd 4 hE k (Z01 rfl rfl) ?_
   intro a20 hE e4 kp
   refine sd 5 hE k (Z01 rfl rfl) ?_
   intro a21 hE e5 kp
   replace e4 := kt kp e4
   refine wpList_nil ?_
   replace k := k.env hE
   clear hE e0 e3 e23
   refine Z00 ?_
   refine wp_ret ?_
   refine Z0c ?_
   refine Z1f rfl k e4 e5 ?_
   exact ⟨.inl ⟨by unfold badW; rw [decide_eq_true b1]; rfl, rfl⟩, O.below⟩
 · by_cases b2 : 100 < xs.length
   · skip
     refine wp_seq ?_
     refine wp_seq ?_
     refine wp_region_lit ?_
     have hE := Env.refl a6 [11, 12, 13, 14, 15, 16, 17, 18, 19, 20, 21, 22, 23]
     apply Z05 11 hE k rfl rfl rfl rfl
     case h =>
      have q0 : w3.cell? ⟨lb, 0, none⟩ = some (.slice A xs.length ca) := (OwnT.blk O 0 rfl).cell 0
      simp [go_sem, ↓IntWalk.iteOmega, ev (hE.g e3), q0]
      with_reducible rfl
     intro a22 hE e11 kp
     refine sd 12 hE k (Z0d Tryd.underlying33 rfl e11) ?_
     intro a23 hE e12 kp
     refine sd 13 hE k (Z06 (Z18 rfl e12 rfl) (decide_eq_false (by omega))) ?_
     intro a24 hE e13 kp
     refine sd 14 hE k (Z02 rfl e13) ?_
     intro a25 hE e14 kp
     apply Z03 15 hE k rfl rfl rfl rfl rfl e14
     case h =>
      have q0 : w3.cell? ⟨lb, 0, none⟩ = some (.slice A xs.length ca) := (OwnT.blk O 0 rfl).cell 0
      simp [go_sem, ↓IntWalk.iteOmega, ev (hE.g e3), q0]
      with_reducible rfl
     intro a26 hE e15 kp
     replace e14 := kt kp e14
     apply Z03 16 hE k rfl rfl rfl rfl rfl e14
     case h =>
      exact Z0d Tryd.underlying33 rfl e15
     intro a27 hE e16 kp
     replace e14 := kt kp e14
     apply Z03 17 hE k rfl rfl rfl rfl rfl e14
     case h =>
      exact Z06 (Z17 rfl e16 rfl) (decide_eq_true (by omega))
     intro a28 hE e17 kp
     replace e14 := kt kp e14
     refine sd 18 hE k (Z07 rfl e14 e17) ?_
     intro a29 hE e18 kp
     refine sd 19 hE k (Z02 rfl e18) ?_
     intro a30 hE e19 kp
     refine Z04 20 hE k rfl (by rfl) (by rfl) rfl rfl (.inl e19) ?_
     intro a31 hE e20 kp
     replace e19 := kt kp e19
     refine Z04 21 hE k rfl (by rfl) (by rfl) rfl rfl (.inl e19) ?_
     intro a32 hE e21 kp
     replace e19 := kt kp e19; replace e20 := kt kp e20
     refine Z04 22 hE k rfl (by rfl) (by rfl) rfl rfl (.inl e19) ?_
     intro a33 hE e22 kp
     replace e19 := kt kp e19
     refine sd 23 hE k (Z09 rfl e19 rfl) ?_
     intro a34 hE e23 kp
     refine wpList_nil ?_
     replace e0 := hE.g e0; replace e3 := hE.g e3
     replace k := k.env hE
     clear hE e6
     refine Z00 ?_
     refine Z0a e23 rfl ?_
     refine wp_seq ?_
     refine wp_region_lit ?_
     have hE := Env.refl a34 [4, 5]
     refine sd 4 hE k (Z01 rfl rfl) ?_
     intro a35 hE e4 kp
     refine sd 5 hE k (Z01 rfl rfl) ?_
     intro a36 hE e5 kp
     replace e4 := kt kp e4
     refine wpList_nil ?_
     replace k := k.env hE
     clear hE e0 e3 e23
     refine Z00 ?_
     refine wp_ret ?_
     refine Z0c ?_
     refine Z1f rfl k e4 e5 ?_
     exact ⟨.inl ⟨by unfold badW; rw [decide_eq_true b2]; simp, rfl⟩, O.below⟩
   · skip
     cases b3 : xs.any badN with
     | true =>
      refine wp_seq ?_
      refine wp_seq ?_
      refine wp_region_lit ?_
      have hE := Env.refl a6 [11, 12, 13, 14, 15, 16, 17, 18, 19, 20, 21, 22, 23]
      apply Z05 11 hE k rfl rfl rfl rfl
      case h =>
       have q0 : w3.cell? ⟨lb, 0, none⟩ = some (.slice A xs.length ca) := (OwnT.blk O 0 rfl).cell 0
       simp [go_sem, ↓IntWalk.iteOmega, ev (hE.g e3), q0]
       with_reducible rfl
      intro a37 hE e11 kp
      refine sd 12 hE k (Z0d Tryd.underlying33 rfl e11) ?_
      intro a38 hE e12 kp
      refine sd 13 hE k (Z06 (Z18 rfl e12 rfl) (decide_eq_false (by omega))) ?_
      intro a39 hE e13 kp
      refine sd 14 hE k (Z02 rfl e13) ?_
      intro a40 hE e14 kp
      apply Z03 15 hE k rfl rfl rfl rfl rfl e14
      case h =>
       have q0 : w3.cell? ⟨lb, 0, none⟩ = some (.slice A xs.length ca) := (OwnT.blk O 0 rfl).cell 0
       simp [go_sem, ↓IntWalk.iteOmega, ev (hE.g e3), q0]
       with_reducible rfl
      intro a41 hE e15 kp
      replace e14 := kt kp e14
      apply Z03 16 hE k rfl rfl rfl rfl rfl e14
      case h =>
       exact Z0d Tryd.underlying33 rfl e15
      intro a42 hE e16 kp
      replace e14 := kt kp e14
      apply Z03 17 hE k rfl rfl rfl rfl rfl e14
      case h =>
       exact Z06 (Z17 rfl e16 rfl) (decide_eq_false (by omega))
      intro a43 hE e17 kp
      replace e14 := kt kp e14
      refine sd 18 hE k (Z07 rfl e14 e17) ?_
      intro a44 hE e18 kp
      refine sd 19 hE k (Z02 rfl e18) ?_
      intro a45 hE e19 kp
      apply Z03 20 hE k rfl rfl rfl rfl rfl e19
      case h =>
       have q0 : w3.cell? ⟨lb, 0, none⟩ = some (.slice A xs.length ca) := (OwnT.blk O 0 rfl).cell 0
       simp [go_sem, ↓IntWalk.iteOmega, ev (hE.g e3), q0]
       with_reducible rfl
      intro a46 hE e20 kp
      replace e19 := kt kp e19
      apply Z03 21 hE k rfl rfl rfl rfl rfl e19
      case h =>
       exact Z02 rfl (hE.g e6)
      intro a47 hE e21 kp
      replace e19 := kt kp e19; replace e20 := kt kp e20
      apply Z10 22 hE k rfl (by rfl) (by rfl) rfl rfl e19
      case h =>
       simp [go_sem, ↓IntWalk.iteOmega, ev e20, ev e21]
       with_reducible exact ⟨rfl, rfl⟩
      case hc => exact Z4v _ (h.below O.below) hn
      rintro e w49 ⟨he, RE⟩
      replace O := OwnT.ext O RE
      refine ⟨_, he.trans (congrArg (fun b => Ending.returned (.bool b)) b3), ?_⟩
      intro a48 hE e22 kp
      replace e19 := kt kp e19
      refine sd 23 hE k (Z07 rfl e19 e22) ?_
      intro a50 hE e23 kp
      refine wpList_nil ?_
      replace e0 := hE.g e0; replace e3 := hE.g e3
      replace k := k.env hE
      clear hE e6
      refine Z00 ?_
      refine Z0a e23 rfl ?_
      refine wp_seq ?_
      refine wp_region_lit ?_
      have hE := Env.refl a50 [4, 5]
      refine sd 4 hE k (Z01 rfl rfl) ?_
      intro a51 hE e4 kp
      refine sd 5 hE k (Z01 rfl rfl) ?_
      intro a52 hE e5 kp
      replace e4 := kt kp e4
      refine wpList_nil ?_
      replace k := k.env hE
      clear hE e0 e3 e23
      refine Z00 ?_
      refine wp_ret ?_
      refine Z0c ?_
      refine Z1f rfl k e4 e5 ?_
      exact ⟨.inl ⟨by unfold badW; rw [b3]; simp, rfl⟩, O.below⟩
     | false =>
      have hbad : badW xs = false := by unfold badW; rw [b3, decide_eq_false b1, decide_eq_false b2]; rfl
      refine wp_seq ?_
      refine wp_seq ?_
      refine wp_region_lit ?_
      have hE := Env.refl a6 [11, 12, 13, 14, 15, 16, 17, 18, 19, 20, 21, 22, 23]
      apply Z05 11 hE k rfl rfl rfl rfl
      case h =>
       have q0 : w3.cell? ⟨lb, 0, none⟩ = some (.slice A xs.length ca) := (OwnT.blk O 0 rfl).cell 0
       simp [go_sem, ↓IntWalk.iteOmega, ev (hE.g e3), q0]
       with_reducible rfl
      intro a53 hE e11 kp
      refine sd 12 hE k (Z0d Tryd.underlying33 rfl e11) ?_
      intro a54 hE e12 kp
      refine sd 13 hE k (Z06 (Z18 rfl e12 rfl) (decide_eq_false (by omega))) ?_
      intro a55 hE e13 kp
      refine sd 14 hE k (Z02 rfl e13) ?_
      intro a56 hE e14 kp
      apply Z03 15 hE k rfl rfl rfl rfl rfl e14
      case h =>
       have q0 : w3.cell? ⟨lb, 0, none⟩ = some (.slice A xs.length ca) := (OwnT.blk O 0 rfl).cell 0
       simp [go_sem, ↓IntWalk.iteOmega, ev (hE.g e3), q0]
       with_reducible rfl
      intro a57 hE e15 kp
      replace e14 := kt kp e14
      apply Z03 16 hE k rfl rfl rfl rfl rfl e14
      case h =>
       exact Z0d Tryd.underlying33 rfl e15
      intro a58 hE e16 kp
      replace e14 := kt kp e14
      apply Z03 17 hE k rfl rfl rfl rfl rfl e14
      case h =>
       exact Z06 (Z17 rfl e16 rfl) (decide_eq_false (by omega))
      intro a59 hE e17 kp
      replace e14 := kt kp e14
      refine sd 18 hE k (Z07 rfl e14 e17) ?_
      intro a60 hE e18 kp
      refine sd 19 hE k (Z02 rfl e18) ?_
      intro a61 hE e19 kp
      apply Z03 20 hE k rfl rfl rfl rfl rfl e19
      case h =>
       have q0 : w3.cell? ⟨lb, 0, none⟩ = some (.slice A xs.length ca) := (OwnT.blk O 0 rfl).cell 0
       simp [go_sem, ↓IntWalk.iteOmega, ev (hE.g e3), q0]
       with_reducible rfl
      intro a62 hE e20 kp
      replace e19 := kt kp e19
      apply Z03 21 hE k rfl rfl rfl rfl rfl e19
      case h =>
       exact Z02 rfl (hE.g e6)
      intro a63 hE e21 kp
      replace e19 := kt kp e19; replace e20 := kt kp e20
      apply Z10 22 hE k rfl (by rfl) (by rfl) rfl rfl e19
      case h =>
       simp [go_sem, ↓IntWalk.iteOmega, ev e20, ev e21]
       with_reducible exact ⟨rfl, rfl⟩
      case hc => exact Z4v _ (h.below O.below) hn
      rintro e w65 ⟨he, RE⟩
      replace O := OwnT.ext O RE
      refine ⟨_, he.trans (congrArg (fun b => Ending.returned (.bool b)) b3), ?_⟩
      intro a64 hE e22 kp
      replace e19 := kt kp e19
      refine sd 23 hE k (Z07 rfl e19 e22) ?_
      intro a66 hE e23 kp
      refine wpList_nil ?_
      replace e0 := hE.g e0; replace e3 := hE.g e3
      replace k := k.env hE
      clear hE e6
      refine Z00 ?_
      refine Z0e e23 rfl ?_
      refine wp_skip ?_
      refine Z00 (wp_seq ?_)
      refine wp_region_lit ?_
      have hE := Env.refl a66 [24, 25, 7]
      refine zm 24 hE k e0 ?_
      intro a67 hE e24 kp
      apply Z08 25 hE k rfl (by rfl) (by rfl) rfl
      case h =>
       simp [go_sem, ↓IntWalk.iteOmega, ev e24]
       with_reducible exact ⟨rfl, rfl⟩
      case hc => exact Z42 s _ O hs (fun W hb => hv.below hb)
      clear O
      rintro e w69 ⟨Bq, cq, vs, rfl, O⟩
      refine ⟨_, rfl, ?_⟩
      intro a68 hE e25 kp
      refine sd 7 hE k (Z01 rfl e25) ?_
      intro a70 hE e7 kp
      refine wpList_nil ?_
      replace e0 := hE.g e0; replace e3 := hE.g e3
      replace k := k.env hE
      clear hE e23
      refine Z00 (wp_seq ?_)
      refine wp_region_lit ?_
      have hE := Env.refl a70 [26, 8]
      apply Z05 26 hE k rfl rfl rfl rfl
      case h =>
       simp [go_sem, ↓IntWalk.iteOmega, ev (hE.g e3)]
       with_reducible rfl
      intro a71 hE e26 kp
      refine sd 8 hE k (Z01 rfl e26) ?_
      intro a72 hE e8 kp
      refine wpList_nil ?_
      replace e0 := hE.g e0; replace e3 := hE.g e3; replace e7 := hE.g e7
      replace k := k.env hE
      clear hE
      refine Z00 ?_
      obtain ⟨m, hm⟩ : ∃ m, xs.length = m := ⟨_, rfl⟩
      have hm0 : 0 < m := by omega
      have hm1 : m ≤ 100 := by omega
      obtain ⟨X, hX⟩ : ∃ X, partL s = X := ⟨_, rfl⟩
      have hok : okC s xs = (X.all (fun T => decide (T.length = m)) && decide (wdsL X m = xs) && tableB X && decide (textL X = s)) := by unfold okC; rw [hX, hm]
      rw [hX] at hsz1 hsz2 hcs O
      have hTX : ∀ W, OwnT W0.heap.size W0 [tRow 36 1 (.slice Bq X.length cq) X.length vs, tTxs vs X, tBlk lb 33 #[.slice A xs.length ca]] W → TxsR W Bq X := fun W O => txs_of (OwnT.get O 0 rfl : World.ownsRow _ _ _ _ _ _ _) (OwnT.get O 1 rfl)

      rw [hX] at e7
      skip
      cases g1 : X.all (fun T => decide (T.length = m)) with
      | false =>
       refine wp_seq ?_
       refine wp_seq ?_
       refine Z13 (R := Ext) (w0 := w69) [[], [], [0, 1], [0, 1, 2], [0, 1, 2, 3], [0, 1, 2, 3], [0, 1, 2, 3, 5], [0, 1, 2, 3, 4, 5, 6], [0, 1, 2, 3], [0, 1, 2, 3, 4, 5, 6, 7, 8], [0, 1, 2, 3, 4, 5, 6, 7, 8, 9], [0, 1, 2, 3, 4, 5, 6, 7, 8, 9, 10]] [27, 28, 29, 30, 31, 32, 33, 34, 35, 36, 37, 38] Ext.refl (fun _ _ _ => Ext.trans) (Ext.drew _) (by kernel_rfl) ?_
       apply bd 27 k rfl rfl rfl
       case h =>
        intro ax wx hE hR hF
        exact Z02 rfl (hE.g e7)
       apply bd 28 k rfl rfl rfl
       case h =>
        intro ax wx hE hR hF
        exact Z02 rfl (hE.g e8)
       apply Build.call 29 Ext.refl (by rfl) (by rw [k.size]; rfl) rfl
       case h =>
        intro ax wx hE hR hF
        have e27 := zhF hF 0 27 ml1
        have e28 := zhF hF 1 28 ml0
        simp [go_sem, ↓IntWalk.iteOmega, ev e27, ev e28]
        with_reducible exact ⟨rfl, rfl⟩
       case hc => intro wx hR; exact (Z2c (m := xs.length) wx (hTX _ (OwnT.ext O hR)) (by omega) ((OwnT.blk (OwnT.ext O hR) 2 rfl).cell 0)).mono (fun e w' h => ⟨h.1.trans (show Ending.returned (Value.bool (!X.all fun T => decide (T.length = xs.length))) = Ending.returned (.bool true) by rw [hm, g1]; first | done | rfl), h.2⟩)
       apply bd 30 k rfl rfl rfl
       case h =>
        intro ax wx hE hR hF
        have e29 := zhF hF 2 29 ml0
        exact Z02 rfl e29
       refine Build.skip 31 (by rfl) (by rw [k.size]; rfl) rfl rfl ?_ ?_
       · intro ax wx hE hR hF
         have e30 := zhF hF 3 30 ml0
         exact e30
       refine Build.skip 32 (by rfl) (by rw [k.size]; rfl) rfl rfl ?_ ?_
       · intro ax wx hE hR hF
         have e30 := zhF hF 3 30 ml1
         exact e30
       refine Build.skip 33 (by rfl) (by rw [k.size]; rfl) rfl rfl ?_ ?_
       · intro ax wx hE hR hF
         have e30 := zhF hF 3 30 ml2
         exact e30
       refine Build.skip 34 (by rfl) (by rw [k.size]; rfl) rfl rfl ?_ ?_
       · intro ax wx hE hR hF
         have e30 := zhF hF 3 30 ml3
         exact e30
       refine Build.skip 35 (by rfl) (by rw [k.size]; rfl) rfl rfl ?_ ?_
       · intro ax wx hE hR hF
         have e30 := zhF hF 3 30 ml4
         exact e30
       refine Build.skip 36 (by rfl) (by rw [k.size]; rfl) rfl rfl ?_ ?_
       · intro ax wx hE hR hF
         have e30 := zhF hF 3 30 ml5
         exact e30
       refine Build.skip 37 (by rfl) (by rw [k.size]; rfl) rfl rfl ?_ ?_
       · intro ax wx hE hR hF
         have e30 := zhF hF 3 30 ml6
         exact e30
       apply bd 38 k rfl rfl rfl
       case h =>
        intro ax wx hE hR hF
        have e30 := zhF hF 3 30 ml7
        have e37 := zhF hF 10 37 ml0
        exact Z09 rfl e30 rfl
       apply Build.stop
       refine ⟨by kernel_rfl, .inl ⟨rfl, ?_⟩⟩
       intro a73 w74 hE R hF
       have e38 : a73.eval (.tmp 38) = _ := hF 11 (det 38 _) ml0
       clear hF
       replace O := OwnT.ext O R
       clear R
       replace e0 := hE.g e0; replace e7 := hE.g e7
       replace k := k.env hE
       clear hE e3 e8
       refine Z00 ?_
       refine Z0a e38 rfl ?_
       refine wp_seq ?_
       refine wp_region_lit ?_
       have hE := Env.refl a73 [4, 5]
       refine sd 4 hE k (Z01 rfl rfl) ?_
       intro a75 hE e4 kp
       refine sd 5 hE k (Z01 rfl rfl) ?_
       intro a76 hE e5 kp
       replace e4 := kt kp e4
       refine wpList_nil ?_
       replace k := k.env hE
       clear hE e0 e7 e38
       refine Z00 ?_
       refine wp_ret ?_
       refine Z0c ?_
       refine Z1f rfl k e4 e5 ?_
       exact ⟨.inr (.inl ⟨hbad, hok.trans (by rw [g1]; rfl), rfl⟩), O.below⟩
      | true =>
       have hrl : ∀ T ∈ X, T.length = m := fun T hT => by have := List.all_eq_true.1 g1 T hT; simpa using this
       cases g2 : decide (wdsL X m = xs) with
       | false =>
        refine wp_seq ?_
        refine wp_seq ?_
        refine Z13 (R := Ext) (w0 := w69) [[], [], [0, 1], [0, 1, 2], [0, 1, 2, 3], [0, 1, 2, 3], [0, 1, 2, 3, 5], [0, 1, 2, 3, 4, 5, 6], [0, 1, 2, 3], [0, 1, 2, 3, 4, 5, 6, 7, 8], [0, 1, 2, 3, 4, 5, 6, 7, 8, 9], [0, 1, 2, 3, 4, 5, 6, 7, 8, 9, 10]] [27, 28, 29, 30, 31, 32, 33, 34, 35, 36, 37, 38] Ext.refl (fun _ _ _ => Ext.trans) (Ext.drew _) (by kernel_rfl) ?_
        apply bd 27 k rfl rfl rfl
        case h =>
         intro ax wx hE hR hF
         exact Z02 rfl (hE.g e7)
        apply bd 28 k rfl rfl rfl
        case h =>
         intro ax wx hE hR hF
         exact Z02 rfl (hE.g e8)
        apply Build.call 29 Ext.refl (by rfl) (by rw [k.size]; rfl) rfl
        case h =>
         intro ax wx hE hR hF
         have e27 := zhF hF 0 27 ml1
         have e28 := zhF hF 1 28 ml0
         simp [go_sem, ↓IntWalk.iteOmega, ev e27, ev e28]
         with_reducible exact ⟨rfl, rfl⟩
        case hc => intro wx hR; exact (Z2c (m := xs.length) wx (hTX _ (OwnT.ext O hR)) (by omega) ((OwnT.blk (OwnT.ext O hR) 2 rfl).cell 0)).mono (fun e w' h => ⟨h.1.trans (show Ending.returned (Value.bool (!X.all fun T => decide (T.length = xs.length))) = Ending.returned (.bool false) by rw [hm, g1]; first | done | rfl), h.2⟩)
        apply bd 30 k rfl rfl rfl
        case h =>
         intro ax wx hE hR hF
         have e29 := zhF hF 2 29 ml0
         exact Z02 rfl e29
        apply bdg 31 k rfl rfl rfl rfl
        case h =>
         intro ax wx hE hR hF
         have e30 := zhF hF 3 30 ml0
         refine ⟨e30, ?_⟩
         exact Z02 rfl (hE.g e7)
        apply bdg 32 k rfl rfl rfl rfl
        case h =>
         intro ax wx hE hR hF
         have e30 := zhF hF 3 30 ml1
         refine ⟨e30, ?_⟩
         have q0 : wx.cell? ⟨lb, 0, none⟩ = some (.slice A xs.length ca) := (OwnT.blk (OwnT.ext O hR) 2 rfl).cell 0
         simp [go_sem, ↓IntWalk.iteOmega, ev (hE.g e3), q0]
         with_reducible rfl
        apply bdg 33 k rfl rfl rfl rfl
        case h =>
         intro ax wx hE hR hF
         have e32 := zhF hF 5 32 ml0
         have e30 := zhF hF 3 30 ml2
         refine ⟨e30, ?_⟩
         exact Z39 (v := .int .i64 ↑m) (Z0d Tryd.underlying33 rfl e32) (Z0x (by omega))
        apply Build.callnewg 34 (fun v w => ∃ g, v = .slice (some ⟨g, 0, none⟩) m m ∧ (tBlk g 3 (wsC m (colW X))).holds w) (fun v w w' hR h => by obtain ⟨g, e, h⟩ := h; exact ⟨g, e, (show Blk _ _ _ _ from h).ext hR⟩) Ext.refl (by rfl) (by rw [k.size]; rfl) rfl rfl
        case h =>
         intro ax wx hE hR hF
         have e31 := zhF hF 4 31 ml2
         have e33 := zhF hF 6 33 ml0
         have e30 := zhF hF 3 30 ml3
         refine ⟨e30, ?_⟩
         simp [go_sem, ↓IntWalk.iteOmega, ev e31, ev e33]
         with_reducible exact ⟨rfl, rfl⟩
        case hc => exact fun wx hR => (Z1m (m := m) wx (hTX _ (OwnT.ext O hR)) (by omega) (by omega) (fun T hT => ⟨by have := hrl T hT; omega, fun c hc => Nat.le_trans (hcs T hT c hc) (by decide)⟩)).mono (fun e w' ⟨g, h1, h2, h3, h4⟩ => ⟨_, h1, h4, g, rfl, h3⟩)
        apply bdg 35 k rfl rfl rfl rfl
        case h =>
         intro ax wx hE hR hF
         have e30 := zhF hF 3 30 ml4
         refine ⟨e30, ?_⟩
         have q0 : wx.cell? ⟨lb, 0, none⟩ = some (.slice A xs.length ca) := (OwnT.blk (OwnT.ext O hR) 2 rfl).cell 0
         simp [go_sem, ↓IntWalk.iteOmega, ev (hE.g e3), q0]
         with_reducible rfl
        apply Build.callxg 36 Ext.refl (by rfl) (by rw [k.size]; rfl) rfl rfl
        case h =>
         intro ax wx hE hR hF
         have f34 := hF 7 _ (by decide) ml1
         have e35 := zhF hF 8 35 ml0
         have e30 := zhF hF 3 30 ml5
         refine ⟨e30, ?_⟩
         obtain ⟨g, e34, hgb⟩ := f34
         refine ⟨_, _, ?_, (Z6f (ca := ca) wx (h.below (OwnT.ext O hR).below) hm hm0 (by omega) hgb).mono (fun e w' h => ⟨h.1.trans (congrArg (fun b => Ending.returned (.bool b)) g2), h.2⟩)⟩
         simp [go_sem, ↓IntWalk.iteOmega, ev e34, ev e35]
        apply bdg 37 k rfl rfl rfl rfl
        case h =>
         intro ax wx hE hR hF
         have e36 := zhF hF 9 36 ml0
         have e30 := zhF hF 3 30 ml6
         refine ⟨e30, ?_⟩
         exact Z3a rfl e36
        apply bd 38 k rfl rfl rfl
        case h =>
         intro ax wx hE hR hF
         have e30 := zhF hF 3 30 ml7
         have e37 := zhF hF 10 37 ml0
         exact Z07 rfl e30 e37
        apply Build.stop
        refine ⟨by kernel_rfl, .inl ⟨rfl, ?_⟩⟩
        intro a77 w78 hE R hF
        have e38 : a77.eval (.tmp 38) = _ := hF 11 (det 38 _) ml0
        clear hF
        replace O := OwnT.ext O R
        clear R
        replace e0 := hE.g e0; replace e7 := hE.g e7
        replace k := k.env hE
        clear hE e3 e8
        refine Z00 ?_
        refine Z0a e38 rfl ?_
        refine wp_seq ?_
        refine wp_region_lit ?_
        have hE := Env.refl a77 [4, 5]
        refine sd 4 hE k (Z01 rfl rfl) ?_
        intro a79 hE e4 kp
        refine sd 5 hE k (Z01 rfl rfl) ?_
        intro a80 hE e5 kp
        replace e4 := kt kp e4
        refine wpList_nil ?_
        replace k := k.env hE
        clear hE e0 e7 e38
        refine Z00 ?_
        refine wp_ret ?_
        refine Z0c ?_
        refine Z1f rfl k e4 e5 ?_
        exact ⟨.inr (.inl ⟨hbad, hok.trans (by rw [g1, g2]; rfl), rfl⟩), O.below⟩
       | true =>
        refine wp_seq ?_
        refine wp_seq ?_
        refine Z13 (R := Ext) (w0 := w69) [[], [], [0, 1], [0, 1, 2], [0, 1, 2, 3], [0, 1, 2, 3], [0, 1, 2, 3, 5], [0, 1, 2, 3, 4, 5, 6], [0, 1, 2, 3], [0, 1, 2, 3, 4, 5, 6, 7, 8], [0, 1, 2, 3, 4, 5, 6, 7, 8, 9], [0, 1, 2, 3, 4, 5, 6, 7, 8, 9, 10]] [27, 28, 29, 30, 31, 32, 33, 34, 35, 36, 37, 38] Ext.refl (fun _ _ _ => Ext.trans) (Ext.drew _) (by kernel_rfl) ?_
        apply bd 27 k rfl rfl rfl
        case h =>
         intro ax wx hE hR hF
         exact Z02 rfl (hE.g e7)
        apply bd 28 k rfl rfl rfl
        case h =>
         intro ax wx hE hR hF
         exact Z02 rfl (hE.g e8)
        apply Build.call 29 Ext.refl (by rfl) (by rw [k.size]; rfl) rfl
        case h =>
         intro ax wx hE hR hF
         have e27 := zhF hF 0 27 ml1
         have e28 := zhF hF 1 28 ml0
         simp [go_sem, ↓IntWalk.iteOmega, ev e27, ev e28]
         with_reducible exact ⟨rfl, rfl⟩
        case hc => intro wx hR; exact (Z2c (m := xs.length) wx (hTX _ (OwnT.ext O hR)) (by omega) ((OwnT.blk (OwnT.ext O hR) 2 rfl).cell 0)).mono (fun e w' h => ⟨h.1.trans (show Ending.returned (Value.bool (!X.all fun T => decide (T.length = xs.length))) = Ending.returned (.bool false) by rw [hm, g1]; first | done | rfl), h.2⟩)
        apply bd 30 k rfl rfl rfl
        case h =>
         intro ax wx hE hR hF
         have e29 := zhF hF 2 29 ml0
         exact Z02 rfl e29
        apply bdg 31 k rfl rfl rfl rfl
        case h =>
         intro ax wx hE hR hF
         have e30 := zhF hF 3 30 ml0
         refine ⟨e30, ?_⟩
         exact Z02 rfl (hE.g e7)
        apply bdg 32 k rfl rfl rfl rfl
        case h =>
         intro ax wx hE hR hF
         have e30 := zhF hF 3 30 ml1
         refine ⟨e30, ?_⟩
         have q0 : wx.cell? ⟨lb, 0, none⟩ = some (.slice A xs.length ca) := (OwnT.blk (OwnT.ext O hR) 2 rfl).cell 0
         simp [go_sem, ↓IntWalk.iteOmega, ev (hE.g e3), q0]
         with_reducible rfl
        apply bdg 33 k rfl rfl rfl rfl
        case h =>
         intro ax wx hE hR hF
         have e32 := zhF hF 5 32 ml0
         have e30 := zhF hF 3 30 ml2
         refine ⟨e30, ?_⟩
         exact Z39 (v := .int .i64 ↑m) (Z0d Tryd.underlying33 rfl e32) (Z0x (by omega))
        apply Build.callnewg 34 (fun v w => ∃ g, v = .slice (some ⟨g, 0, none⟩) m m ∧ (tBlk g 3 (wsC m (colW X))).holds w) (fun v w w' hR h => by obtain ⟨g, e, h⟩ := h; exact ⟨g, e, (show Blk _ _ _ _ from h).ext hR⟩) Ext.refl (by rfl) (by rw [k.size]; rfl) rfl rfl
        case h =>
         intro ax wx hE hR hF
         have e31 := zhF hF 4 31 ml2
         have e33 := zhF hF 6 33 ml0
         have e30 := zhF hF 3 30 ml3
         refine ⟨e30, ?_⟩
         simp [go_sem, ↓IntWalk.iteOmega, ev e31, ev e33]
         with_reducible exact ⟨rfl, rfl⟩
        case hc => exact fun wx hR => (Z1m (m := m) wx (hTX _ (OwnT.ext O hR)) (by omega) (by omega) (fun T hT => ⟨by have := hrl T hT; omega, fun c hc => Nat.le_trans (hcs T hT c hc) (by decide)⟩)).mono (fun e w' ⟨g, h1, h2, h3, h4⟩ => ⟨_, h1, h4, g, rfl, h3⟩)
        apply bdg 35 k rfl rfl rfl rfl
        case h =>
         intro ax wx hE hR hF
         have e30 := zhF hF 3 30 ml4
         refine ⟨e30, ?_⟩
         have q0 : wx.cell? ⟨lb, 0, none⟩ = some (.slice A xs.length ca) := (OwnT.blk (OwnT.ext O hR) 2 rfl).cell 0
         simp [go_sem, ↓IntWalk.iteOmega, ev (hE.g e3), q0]
         with_reducible rfl
        apply Build.callxg 36 Ext.refl (by rfl) (by rw [k.size]; rfl) rfl rfl
        case h =>
         intro ax wx hE hR hF
         have f34 := hF 7 _ (by decide) ml1
         have e35 := zhF hF 8 35 ml0
         have e30 := zhF hF 3 30 ml5
         refine ⟨e30, ?_⟩
         obtain ⟨g, e34, hgb⟩ := f34
         refine ⟨_, _, ?_, (Z6f (ca := ca) wx (h.below (OwnT.ext O hR).below) hm hm0 (by omega) hgb).mono (fun e w' h => ⟨h.1.trans (congrArg (fun b => Ending.returned (.bool b)) g2), h.2⟩)⟩
         simp [go_sem, ↓IntWalk.iteOmega, ev e34, ev e35]
        apply bdg 37 k rfl rfl rfl rfl
        case h =>
         intro ax wx hE hR hF
         have e36 := zhF hF 9 36 ml0
         have e30 := zhF hF 3 30 ml6
         refine ⟨e30, ?_⟩
         exact Z3a rfl e36
        apply bd 38 k rfl rfl rfl
        case h =>
         intro ax wx hE hR hF
         have e30 := zhF hF 3 30 ml7
         have e37 := zhF hF 10 37 ml0
         exact Z07 rfl e30 e37
        apply Build.stop
        refine ⟨by kernel_rfl, .inl ⟨rfl, ?_⟩⟩
        intro a81 w82 hE R hF
        have e38 : a81.eval (.tmp 38) = _ := hF 11 (det 38 _) ml0
        clear hF
        replace O := OwnT.ext O R
        clear R
        replace e0 := hE.g e0; replace e7 := hE.g e7
        replace k := k.env hE
        clear hE e3 e8
        refine Z00 ?_
        refine Z0e e38 rfl ?_
        refine wp_skip ?_
        refine Z00 ?_
        cases g3 : tableB X with
        | false =>
         refine wp_seq ?_
         refine wp_seq ?_
         refine wp_region_lit ?_
         have hE := Env.refl a81 [40, 41, 39, 42, 43, 9, 10]
         refine zm 40 hE k e7 ?_
         intro a83 hE e40 kp
         apply Z08 41 hE k rfl (by rfl) (by rfl) rfl
         case h =>
          simp [go_sem, ↓IntWalk.iteOmega, ev e40]
          with_reducible exact ⟨rfl, rfl⟩
         case hc => exact Z15 _ (hTX _ O) (by omega) (fun T hT => ⟨by have := hrl T hT; omega, hcs T hT⟩) (hv.below O.below)
         rintro e w85 ⟨he, RE⟩
         replace O := OwnT.ext O RE
         refine ⟨_, he.trans (by rw [g3]; first | done | rfl), ?_⟩
         intro a84 hE e41 kp
         refine sd 39 hE k (Z02 rfl e41) ?_
         intro a86 hE e39 kp
         apply Z05 42 hE k rfl rfl rfl rfl
         case h =>
          simp [go_sem, ↓IntWalk.iteOmega, ev e39]
          with_reducible rfl
         intro a87 hE e42 kp
         replace e39 := kt kp e39
         apply Z05 43 hE k rfl rfl rfl rfl
         case h =>
          simp [go_sem, ↓IntWalk.iteOmega, ev e39]
          with_reducible rfl
         intro a88 hE e43 kp
         replace e42 := kt kp e42
         refine sd 9 hE k (Z01 rfl e42) ?_
         intro a89 hE e9 kp
         replace e43 := kt kp e43
         refine sd 10 hE k (Z01 rfl e43) ?_
         intro a90 hE e10 kp
         replace e9 := kt kp e9
         refine wpList_nil ?_
         replace e0 := hE.g e0; replace e7 := hE.g e7
         replace k := k.env hE
         clear hE e38
         refine Z00 (wp_seq ?_)
         refine wp_region_lit ?_
         have hE := Env.refl a90 [44, 45, 46, 47, 48, 49, 50]
         refine zm 44 hE k e10 ?_
         intro a91 hE e44 kp
         refine sd 45 hE k (Z06 (Z12 rfl e44 rfl) (decide_eq_true (by omega))) ?_
         intro a92 hE e45 kp
         refine sd 46 hE k (Z02 rfl e45) ?_
         intro a93 hE e46 kp
         refine Z04 47 hE k rfl (by rfl) (by rfl) rfl rfl (.inl e46) ?_
         intro a94 hE e47 kp
         replace e46 := kt kp e46
         refine Z04 48 hE k rfl (by rfl) (by rfl) rfl rfl (.inl e46) ?_
         intro a95 hE e48 kp
         replace e46 := kt kp e46; replace e47 := kt kp e47
         refine Z04 49 hE k rfl (by rfl) (by rfl) rfl rfl (.inl e46) ?_
         intro a96 hE e49 kp
         replace e46 := kt kp e46
         refine sd 50 hE k (Z09 rfl e46 rfl) ?_
         intro a97 hE e50 kp
         refine wpList_nil ?_
         replace e7 := hE.g e7
         replace k := k.env hE
         clear hE e0 e9 e10
         refine Z00 ?_
         refine Z0a e50 rfl ?_
         refine wp_seq ?_
         refine wp_region_lit ?_
         have hE := Env.refl a97 [4, 5]
         refine sd 4 hE k (Z01 rfl rfl) ?_
         intro a98 hE e4 kp
         refine sd 5 hE k (Z01 rfl rfl) ?_
         intro a99 hE e5 kp
         replace e4 := kt kp e4
         refine wpList_nil ?_
         replace k := k.env hE
         clear hE e7 e50
         refine Z00 ?_
         refine wp_ret ?_
         refine Z0c ?_
         refine Z1f rfl k e4 e5 ?_
         exact ⟨.inr (.inl ⟨hbad, hok.trans (by rw [g1, g2, g3]; rfl), rfl⟩), O.below⟩
        | true =>
         refine wp_seq ?_
         refine wp_seq ?_
         refine wp_region_lit ?_
         have hE := Env.refl a81 [40, 41, 39, 42, 43, 9, 10]
         refine zm 40 hE k e7 ?_
         intro a100 hE e40 kp
         apply Z08 41 hE k rfl (by rfl) (by rfl) rfl
         case h =>
          simp [go_sem, ↓IntWalk.iteOmega, ev e40]
          with_reducible exact ⟨rfl, rfl⟩
         case hc => exact Z15 _ (hTX _ O) (by omega) (fun T hT => ⟨by have := hrl T hT; omega, hcs T hT⟩) (hv.below O.below)
         rintro e w102 ⟨he, RE⟩
         replace O := OwnT.ext O RE
         refine ⟨_, he.trans (by rw [g3]; first | done | rfl), ?_⟩
         intro a101 hE e41 kp
         refine sd 39 hE k (Z02 rfl e41) ?_
         intro a103 hE e39 kp
         apply Z05 42 hE k rfl rfl rfl rfl
         case h =>
          simp [go_sem, ↓IntWalk.iteOmega, ev e39]
          with_reducible rfl
         intro a104 hE e42 kp
         replace e39 := kt kp e39
         apply Z05 43 hE k rfl rfl rfl rfl
         case h =>
          simp [go_sem, ↓IntWalk.iteOmega, ev e39]
          with_reducible rfl
         intro a105 hE e43 kp
         replace e42 := kt kp e42
         refine sd 9 hE k (Z01 rfl e42) ?_
         intro a106 hE e9 kp
         replace e43 := kt kp e43
         refine sd 10 hE k (Z01 rfl e43) ?_
         intro a107 hE e10 kp
         replace e9 := kt kp e9
         refine wpList_nil ?_
         replace e0 := hE.g e0; replace e7 := hE.g e7
         replace k := k.env hE
         clear hE e38
         refine Z00 ?_
         by_cases g4 : textL X ≠ s
         · skip
           refine wp_seq ?_
           refine wp_region_lit ?_
           have hE := Env.refl a107 [44, 45, 46, 47, 48, 49, 50]
           refine zm 44 hE k e10 ?_
           intro a108 hE e44 kp
           refine sd 45 hE k (Z06 (Z12 rfl e44 rfl) (decide_eq_false (by omega))) ?_
           intro a109 hE e45 kp
           refine sd 46 hE k (Z02 rfl e45) ?_
           intro a110 hE e46 kp
           apply Z03 47 hE k rfl rfl rfl rfl rfl e46
           case h =>
            exact Z02 rfl (hE.g e9)
           intro a111 hE e47 kp
           replace e46 := kt kp e46
           apply Z03 48 hE k rfl rfl rfl rfl rfl e46
           case h =>
            exact Z02 rfl (hE.g e0)
           intro a112 hE e48 kp
           replace e46 := kt kp e46; replace e47 := kt kp e47
           apply Z03 49 hE k rfl rfl rfl rfl rfl e46
           case h =>
            exact Z06 (Z89 (l := textL X) (m := s) rfl e47 e48) (decide_eq_true g4)
           intro a113 hE e49 kp
           replace e46 := kt kp e46
           refine sd 50 hE k (Z07 rfl e46 e49) ?_
           intro a114 hE e50 kp
           refine wpList_nil ?_
           replace e7 := hE.g e7
           replace k := k.env hE
           clear hE e0 e9 e10
           refine Z00 ?_
           refine Z0a e50 rfl ?_
           refine wp_seq ?_
           refine wp_region_lit ?_
           have hE := Env.refl a114 [4, 5]
           refine sd 4 hE k (Z01 rfl rfl) ?_
           intro a115 hE e4 kp
           refine sd 5 hE k (Z01 rfl rfl) ?_
           intro a116 hE e5 kp
           replace e4 := kt kp e4
           refine wpList_nil ?_
           replace k := k.env hE
           clear hE e7 e50
           refine Z00 ?_
           refine wp_ret ?_
           refine Z0c ?_
           refine Z1f rfl k e4 e5 ?_
           exact ⟨.inr (.inl ⟨hbad, hok.trans (by rw [g1, g2, g3, decide_eq_false g4]; rfl), rfl⟩), O.below⟩
         · replace g4 : textL X = s := Classical.not_not.1 g4
           refine wp_seq ?_
           refine wp_region_lit ?_
           have hE := Env.refl a107 [44, 45, 46, 47, 48, 49, 50]
           refine zm 44 hE k e10 ?_
           intro a117 hE e44 kp
           refine sd 45 hE k (Z06 (Z12 rfl e44 rfl) (decide_eq_false (by omega))) ?_
           intro a118 hE e45 kp
           refine sd 46 hE k (Z02 rfl e45) ?_
           intro a119 hE e46 kp
           apply Z03 47 hE k rfl rfl rfl rfl rfl e46
           case h =>
            exact Z02 rfl (hE.g e9)
           intro a120 hE e47 kp
           replace e46 := kt kp e46
           apply Z03 48 hE k rfl rfl rfl rfl rfl e46
           case h =>
            exact Z02 rfl (hE.g e0)
           intro a121 hE e48 kp
           replace e46 := kt kp e46; replace e47 := kt kp e47
           apply Z03 49 hE k rfl rfl rfl rfl rfl e46
           case h =>
            exact Z06 (Z89 (l := textL X) (m := s) rfl e47 e48) (decide_eq_false (fun h => h g4))
           intro a122 hE e49 kp
           replace e46 := kt kp e46
           refine sd 50 hE k (Z07 rfl e46 e49) ?_
           intro a123 hE e50 kp
           refine wpList_nil ?_
           replace e7 := hE.g e7
           replace k := k.env hE
           clear hE e0 e9 e10
           refine Z00 ?_
           refine Z0e e50 rfl ?_
           refine wp_skip ?_
           refine Z00 (wp_seq ?_)
           refine wp_region_lit ?_
           have hE := Env.refl a123 [51, 4, 5]
           refine zm 51 hE k e7 ?_
           intro a124 hE e51 kp
           refine sd 4 hE k (Z01 rfl e51) ?_
           intro a125 hE e4 kp
           refine sd 5 hE k (Z01 rfl rfl) ?_
           intro a126 hE e5 kp
           replace e4 := kt kp e4
           refine wpList_nil ?_
           replace k := k.env hE
           clear hE e7 e50
           refine Z00 ?_
           refine wp_ret ?_
           refine Z1f rfl k e4 e5 ?_
           exact ⟨.inr (.inr ⟨hbad, hok.trans (by rw [g1, g2, g3, decide_eq_true g4]; rfl), Bq, cq, congrArg (fun z => Ending.returned (.tuple #[.slice Bq z cq, .int .i64 0])) (congrArg List.length hX.symm), by rw [hX]; exact hTX _ O⟩), O.below⟩
end Go.Proofs.YtgdlnfljfiageaaDoor
