/- Lines and cells of texts, plain. -/
import Derived.Test.YtgdlnfljfiageaaDoorKGridBack13
import Derived.Lib.IndexLaws
import Derived.Lib.SplitLaws
import Derived.Shelf.Strings.Prefix
import Derived.Test.YtgdlnfljfiageaaDoorKGridBack14
namespace Go.Proofs.YtgdlnfljfiageaaDoor
set_option linter.unusedVariables false
set_option linter.unusedSimpArgs false
/-- The lines of a text, each with its end. -/
def linesF : Nat → List UInt8 → List (List UInt8)
  | 0, _ => []
  | f + 1, s => if s = [] then [] else if Lib.indexByte s 10 = -1 then [s] else s.take ((Lib.indexByte s 10).toNat + 1) :: linesF f (s.drop ((Lib.indexByte s 10).toNat + 1))
def linesL (s : List UInt8) : List (List UInt8) := linesF s.length s
theorem Z2f : ∀ (f g : Nat) (s : List UInt8), s.length ≤ f → s.length ≤ g → linesF f s = linesF g s
  | 0, 0, _, _, _ => rfl
  | 0, g + 1, s, h, _ => by
    obtain rfl : s = [] := List.eq_nil_of_length_eq_zero (by omega)
    rfl
  | f + 1, 0, s, _, h => by
    obtain rfl : s = [] := List.eq_nil_of_length_eq_zero (by omega)
    rfl
  | f + 1, g + 1, s, h1, h2 => by
    unfold linesF
    split
    · rfl
    · split
      · rfl
      · rw [Z2f f g _ (by rw [List.length_drop]; omega) (by rw [List.length_drop]; omega)]
theorem lnF (f : Nat) (s : List UInt8) : linesF (f + 1) s = if s = [] then [] else if Lib.indexByte s 10 = -1 then [s] else s.take ((Lib.indexByte s 10).toNat + 1) :: linesF f (s.drop ((Lib.indexByte s 10).toNat + 1)) := rfl
theorem Z6a : linesL [] = [] := rfl
theorem Z1i {s : List UInt8} {i : Nat} (h : Lib.indexByte s 10 = (i : Int)) : linesL s = s.take (i + 1) :: linesL (s.drop (i + 1)) ∧ i < s.length := by
  have hi : i < s.length := by
    have := (Lib.indexByte_some h).1
    exact (List.getElem?_eq_some_iff.1 this).1
  refine ⟨?_, hi⟩
  have hne : s ≠ [] := fun e => by rw [e] at hi; simp at hi
  obtain ⟨n, hn⟩ : ∃ n, s.length = n + 1 := ⟨s.length - 1, by omega⟩
  unfold linesL
  rw [hn, lnF, if_neg hne, if_neg (by omega), h, Int.toNat_natCast]
  rw [Z2f n (s.drop (i + 1)).length _ (by rw [List.length_drop]; omega) (Nat.le_refl _)]
theorem Z1w {s : List UInt8} (hne : s ≠ []) (h : Lib.indexByte s 10 = -1) : linesL s = [s] := by
  obtain ⟨n, hn⟩ : ∃ n, s.length = n + 1 := ⟨s.length - 1, by have := List.length_pos_iff.2 hne; omega⟩
  unfold linesL
  rw [hn]
  unfold linesF
  rw [if_neg hne, if_pos h]
theorem Z35 (s : List UInt8) : Lib.indexByte s 10 = -1 ∨ ∃ i : Nat, Lib.indexByte s 10 = (i : Int) := by
  have := Lib.indexByte_ge s 10
  rcases (show Lib.indexByte s 10 = -1 ∨ 0 ≤ Lib.indexByte s 10 by omega) with h | h
  · exact .inl h
  · exact .inr ⟨(Lib.indexByte s 10).toNat, by omega⟩
theorem Z2d : ∀ (n : Nat) (s : List UInt8), s.length ≤ n → ∀ x ∈ linesL s, x.length ≤ s.length
  | 0, s, h, x, hx => by
    obtain rfl : s = [] := List.eq_nil_of_length_eq_zero (by omega)
    cases hx
  | n + 1, s, h, x, hx => by
    by_cases hne : s = []
    · subst hne; cases hx
    · rcases Z35 s with hi | ⟨i, hi⟩
      · rw [Z1w hne hi] at hx
        obtain rfl := List.mem_singleton.1 hx
        exact Nat.le_refl _
      · obtain ⟨e, hlt⟩ := Z1i hi
        rw [e] at hx
        rcases List.mem_cons.1 hx with rfl | hx
        · rw [List.length_take]; omega
        · have := Z2d n _ (by rw [List.length_drop]; omega) x hx
          rw [List.length_drop] at this
          omega
theorem Z2e : ∀ (n : Nat) (s : List UInt8), s.length ≤ n → (linesL s).length ≤ s.length
  | 0, s, h => by
    obtain rfl : s = [] := List.eq_nil_of_length_eq_zero (by omega)
    exact Nat.le_refl _
  | n + 1, s, h => by
    by_cases hne : s = []
    · subst hne; exact Nat.le_refl _
    · have h0 := List.length_pos_iff.2 hne
      rcases Z35 s with hi | ⟨i, hi⟩
      · rw [Z1w hne hi]; exact h0
      · obtain ⟨e, hlt⟩ := Z1i hi
        have := Z2e n (s.drop (i + 1)) (by rw [List.length_drop]; omega)
        rw [e, List.length_cons]
        rw [List.length_drop] at this
        omega
/-- A line's pieces, its cells; all. -/
def splL (x : List UInt8) : List (List UInt8) := Lib.splitK bar 0 (Lib.count x bar) x
def cellsL (line : List UInt8) : List (List UInt8) := (splL (Lib.trimSuffix line [10])).map fun c => Lib.trimRightB c 32
def partL (s : List UInt8) : List (List (List UInt8)) := (linesL s).map cellsL
theorem Z2l (x p : List UInt8) : (Lib.trimSuffix x p).length ≤ x.length := by
  unfold Lib.trimSuffix
  split
  · rw [List.length_take]; omega
  · exact Nat.le_refl _
theorem spl_B (x : List UInt8) : ((Lib.splitB (sB bar) 0 (Lib.countB (sB x) (sB bar)) (sB x)).map fun s => s.data.toList) = splL x := by
  rw [Lib.splitB_data]
  rfl
theorem Z5s (x : List UInt8) : (splL x).length = Lib.countB (sB x) (sB bar) + 1 := by
  rw [← spl_B, List.length_map, Lib.splitB_all (sB bar) (by decide) 0 _ (sB x) rfl]
theorem Z80 (x : List UInt8) : (splL x).length ≤ x.length + 1 := by
  rw [Z5s]
  have := Lib.countB_le (sB bar) (by decide) _ (sB x) (Nat.le_refl _)
  rw [Z0m] at this
  omega
theorem Z2m (sep : List UInt8) : ∀ (k : Nat) (x : List UInt8), ∀ p ∈ Lib.splitK sep 0 k x, p.length ≤ x.length
  | 0, x, p, h => by
    obtain rfl := List.mem_singleton.1 (show p ∈ [x] from h)
    exact Nat.le_refl _
  | k + 1, x, p, h => by
    unfold Lib.splitK at h
    split at h
    · obtain rfl := List.mem_singleton.1 h
      exact Nat.le_refl _
    · rcases List.mem_cons.1 h with rfl | h
      · rw [List.length_take]; omega
      · have := Z2m sep k _ p h
        rw [List.length_drop] at this
        omega
theorem spl_mem (x : List UInt8) : ∀ p ∈ splL x, p.length ≤ x.length := Z2m bar _ x
end Go.Proofs.YtgdlnfljfiageaaDoor

/- grids: strings.Lines' closure (printed by XGrE.gen.py). -/
namespace Go.Proofs.YtgdlnfljfiageaaDoor
attribute [local simp] BigFrame.eval_const BigFrame.eval_global BigFrame.eval_func
set_option linter.unusedVariables false
set_option linter.unusedSimpArgs false
open Go.RowKit

def boxLen (w : World) (b : Nat) : Nat := match w.cell? ⟨b, 0, none⟩ with
 | some (.string s) => s.size
 | _ => 0
theorem Z2h {w : World} {b : Nat} {r : Tx} (h : w.cell? ⟨b, 0, none⟩ = some (.string (sB r))) : boxLen w b = r.length := by
 unfold boxLen
 rw [h]
 exact Z0m r
theorem Z4p (r : Tx) (w : World) : Calls Tryd.prog 64 #[.string (sB r), .int .u8 10] w fun e w' => e = .returned (.int .i64 (Lib.indexByte r 10)) ∧ w = w' :=
 (Tryd.strings_IndexByte (sB r) 10 w).mono fun e w' h => ⟨h.1, h.2.symm⟩
theorem Z41 {P : Program} {Q : Exit → Act → World → Prop} {a : Act} {w w' : World} {o : Oper} (hd : o.dst = none) (h : (execOp a.eval o).run P w = .ok .skip w') (hk : Q .normal a w') : o.wp P a w (fun a w => Q .normal a w) Q := by
 refine Z1t h ?_
 rw [hd]
 exact hk
theorem Z3t {α : Type} {L r : List α} {n : Nat} {x : α} (h : L.drop n = x :: r) : L[n]? = some x ∧ r = L.drop (n + 1) := by
 have hn : n < L.length := by
  rcases Nat.lt_or_ge n L.length with h1 | h1
  · exact h1
  · rw [List.drop_eq_nil_of_le h1] at h; cases h
 rw [List.drop_eq_getElem_cons hn] at h
 injection h with h1 h2
 exact ⟨by rw [List.getElem?_eq_getElem hn, h1], h2.symm⟩
theorem Z44 {w w' : World} {o : Oper} {ρ : Operand → Value} {x y : Operand} {l : Nat} {u : Value} {r : Next} {t : TypeId} (ho : o.op = .call { callee := .value x, args := #[y], argTypes := #[t] }) (hx : ρ x = .func (.yield l) #[] #[]) (hy : ρ y = u) (h : (Instr.yield l #[u]).run Tryd.prog w = .ok r w') : (execOp ρ o).run Tryd.prog w = .ok r w' := by
 unfold execOp
 simp only [ho, resolve, hx, Sem.run_bind, Sem.run_pure, Result.andThen_ok, List.map_toArray, List.map_cons, List.map_nil, hy]
 simpa [invoke, go_sem] using h

set_option maxRecDepth 100000 in
set_option maxHeartbeats 4000000 in
theorem lines1 {l bs : Nat} (LS : List Tx) (J : Nat → Tx → World → Prop)
 (hJb : ∀ k r w, J k r w → w.cell? ⟨bs, 0, none⟩ = some (.string (sB r)) ∧ w.frozen? ⟨bs, 0, none⟩ = false)
 (hJe : ∀ k r w w', J k r w → Ext w w' → J k r w') (hJs : ∀ k r r' w, J k r w → J k r' (w.setCell ⟨bs, 0, none⟩ (.string (sB r'))))
 (hY : ∀ k r w x, J k r w → LS[k]? = some x → ∃ fn tmps assign body, (Instr.yield l #[.string (sB x)]).run Tryd.prog w = .ok (.round l fn tmps assign body) w ∧ RoundIn (FR none) 0 Tryd.prog l fn tmps assign body w fun e w' => e = .returned (.bool true) ∧ J (k + 1) r w')
 (s : Tx) (hLS : LS = linesL s) (hs : s.length ≤ 1000000)
 (W0 : World) (h0 : J 0 s W0) : Calls Tryd.prog 63 #[.func (.yield l) #[] #[], .pointer (some ⟨bs, 0, none⟩)] W0 fun e w' => (∃ v, e = .returned v) ∧ J LS.length [] w' := by
 have hL : ¬ LetsOut (bodyPost Tryd.prog Tryd.f63 fun e w' => (∃ v, e = .returned v) ∧ J LS.length [] w') := fun ⟨_, _, h⟩ => by obtain ⟨⟨v, h⟩, _⟩ := h; cases h
 refine Z0k Tryd.func63 rfl 25 rfl (by rfl) ?_
 intro a1 k hargs
 have e0 : a1.eval (.tmp 0) = .func (.yield l) #[] #[] := hargs 0 _ rfl
 have e1 : a1.eval (.tmp 1) = .pointer (some ⟨bs, 0, none⟩) := hargs 1 _ rfl
 clear hargs
 have hJ := h0
 refine wp_block ?_
 refine wp_loop (fun a w => Fr 25 a ∧ a.eval (.tmp 0) = .func (.yield l) #[] #[] ∧ a.eval (.tmp 1) = .pointer (some ⟨bs, 0, none⟩) ∧ ∃ (n : Nat) (r : Tx), linesL r = LS.drop n ∧ n ≤ LS.length ∧ r.length ≤ 1000000 ∧ J n r w) (fun a w => boxLen w bs) ?_ ?_
 · exact ⟨k, e0, e1, 0, s, by rw [← hLS]; rfl, Nat.zero_le _, hs, hJ⟩
 intro a2 w3 hI
 clear k e0 e1
 obtain ⟨k, e0, e1, h_⟩ := hI
 obtain ⟨n, r, hn, hnL, hrl, hJ⟩ := h_
 have hd := hJb _ _ _ hJ
 have mi := Z2h hd.1
 by_cases hne : r = []
 · subst hne
   refine wp_seq ?_
   refine wp_seq ?_
   refine wp_region_lit ?_
   have hE := Env.refl a2 [5, 6, 7]
   apply Z05 5 hE k rfl rfl rfl rfl
   case h =>
    simp [go_sem, ↓IntWalk.iteOmega, ev (hE.g e1), hd.1]
    with_reducible rfl
   intro a4 hE e5 kp
   refine sd 6 hE k (Z2v Tryd.underlying9 rfl e5) ?_
   intro a5 hE e6 kp
   refine sd 7 hE k (Z06 (Z17 rfl e6 rfl) (decide_eq_false (by decide))) ?_
   intro a6 hE e7 kp
   refine wpList_nil ?_
   replace e0 := hE.g e0; replace e1 := hE.g e1
   replace k := k.env hE
   clear hE
   refine Z00 ?_
   refine Z0e e7 rfl ?_
   refine wp_exit ?_
   refine Z0f ?_
   refine Z0f ?_
   refine Z0n ?_
   have hnl : LS.length ≤ n := by rw [Z6a] at hn; exact List.drop_eq_nil_iff.1 hn.symm
   refine end_F0 rfl k ?_
   exact ⟨⟨_, rfl⟩, (show n = LS.length by omega) ▸ hJ⟩
 · have hlen := List.length_pos_iff.2 hne
   refine wp_seq ?_
   refine wp_seq ?_
   refine wp_region_lit ?_
   have hE := Env.refl a2 [5, 6, 7]
   apply Z05 5 hE k rfl rfl rfl rfl
   case h =>
    simp [go_sem, ↓IntWalk.iteOmega, ev (hE.g e1), hd.1]
    with_reducible rfl
   intro a7 hE e5 kp
   refine sd 6 hE k (Z2v Tryd.underlying9 rfl e5) ?_
   intro a8 hE e6 kp
   refine sd 7 hE k (Z06 (Z17 rfl e6 rfl) (decide_eq_true (by omega))) ?_
   intro a9 hE e7 kp
   refine wpList_nil ?_
   replace e0 := hE.g e0; replace e1 := hE.g e1
   replace k := k.env hE
   clear hE
   refine Z00 ?_
   refine Z0a e7 rfl ?_
   refine wp_skip ?_
   refine Z00 ?_
   refine wp_block ?_
   rcases Z35 r with hi | ⟨i, hi⟩
   · skip
     refine wp_seq ?_
     refine wp_region_lit ?_
     have hE := Env.refl a9 [3]
     refine sd 3 hE k (Z01 rfl rfl) ?_
     intro a10 hE e3 kp
     refine wpList_nil ?_
     replace e0 := hE.g e0; replace e1 := hE.g e1
     replace k := k.env hE
     clear hE e7 e3
     refine Z00 (wp_seq ?_)
     refine wp_seq ?_
     refine wp_region_lit ?_
     have hE := Env.refl a10 [8, 9, 4]
     apply Z05 8 hE k rfl rfl rfl rfl
     case h =>
      simp [go_sem, ↓IntWalk.iteOmega, ev (hE.g e1), hd.1]
      with_reducible rfl
     intro a11 hE e8 kp
     apply Z08 9 hE k rfl (by rfl) (by rfl) rfl
     case h =>
      simp [go_sem, ↓IntWalk.iteOmega, ev e8]
      with_reducible exact ⟨rfl, rfl⟩
     case hc => exact Z4p r _
     rintro e _ ⟨rfl, rfl⟩
     refine ⟨_, rfl, ?_⟩
     intro a12 hE e9 kp
     refine sd 4 hE k (Z01 rfl e9) ?_
     intro a13 hE e4 kp
     refine wpList_nil ?_
     replace e0 := hE.g e0; replace e1 := hE.g e1
     replace k := k.env hE
     clear hE
     refine Z00 (wp_seq ?_)
     refine wp_region_lit ?_
     have hE := Env.refl a13 [10, 11]
     refine zm 10 hE k e4 ?_
     intro a14 hE e10 kp
     refine sd 11 hE k (Z06 (Z3b rfl e10 rfl) (decide_eq_false (by omega))) ?_
     intro a15 hE e11 kp
     refine wpList_nil ?_
     replace e0 := hE.g e0; replace e1 := hE.g e1; replace e4 := hE.g e4
     replace k := k.env hE
     clear hE
     refine Z00 ?_
     refine Z0e e11 rfl ?_
     refine wp_region_lit ?_
     have hE := Env.refl a15 [20, 3]
     apply Z05 20 hE k rfl rfl rfl rfl
     case h =>
      simp [go_sem, ↓IntWalk.iteOmega, ev (hE.g e1), hd.1]
      with_reducible rfl
     intro a16 hE e20 kp
     refine sd 3 hE k (Z01 rfl e20) ?_
     intro a17 hE e3 kp
     refine Z30 (w' := w3.setCell ⟨bs, 0, none⟩ (.string (sB []))) hE rfl rfl (by simp [go_sem, ↓IntWalk.iteOmega, ev (hE.g e1), hd.1, hd.2]; rfl) ?_
     replace hJ := hJs _ _ [] _ hJ
     clear hd
     obtain ⟨wN, hwN⟩ : ∃ z, w3.setCell ⟨bs, 0, none⟩ (.string (sB [])) = z := ⟨_, rfl⟩
     generalize w3.setCell ⟨bs, 0, none⟩ (.string (sB [])) = wN at hJ ⊢
     refine wpList_nil ?_
     replace e0 := hE.g e0; replace e1 := hE.g e1
     replace k := k.env hE
     clear hE e4 e11
     refine Z00 ?_
     obtain ⟨hx, hn2⟩ : LS[n]? = some (r) ∧ linesL (([] : Tx)) = LS.drop (n + 1) := Z3t (hn.symm.trans (Z1w hne hi))
     obtain ⟨fn, tmps, assign, body, hyr, hRR⟩ := hY _ _ _ _ hJ hx
     refine wp_seq ?_
     refine Z5d ?_
     have hE := Env.refl a17 [21, 22, 23, 24]
     refine Z0v rfl (fun h => hL h) ?_
     refine zm 21 hE k e0 ?_
     intro a19 hE e21 kp
     refine wpList_nil ?_
     refine Z00 ?_
     refine Z0v rfl (fun h => hL h) ?_
     refine zm 22 hE k e3 ?_
     intro a20 hE e22 kp
     replace e21 := kt kp e21
     refine wpList_nil ?_
     refine Z00 ?_
     apply Z59 23 hE k rfl (by rfl) (by rfl) rfl
     case hrun => exact Z44 rfl e21 e22 hyr
     case hdf => rfl
     case hR => exact hRR
     rintro e w22 ⟨rfl, hJ2⟩
     refine ⟨_, rfl, ?_⟩
     intro a21 hE e23 kp
     refine Z0v rfl (fun h => hL h) ?_
     refine sd 24 hE k (Z3a rfl e23) ?_
     intro a23 hE e24 kp
     refine wpList_nil ?_
     refine Z00 ?_
     refine wpListIn_nil ?_
     replace e0 := hE.g e0; replace e1 := hE.g e1
     replace k := k.env hE
     clear hE e3
     refine Z00 ?_
     refine Z0e e24 rfl ?_
     refine wp_skip ?_
     refine Z0i ?_
     refine Z00 ?_
     clear hJ
     have hJ := hJ2
     have m2 := Z2h (hJb _ _ _ hJ).1
     have hn3 := (List.getElem?_eq_some_iff.1 hx).1
     refine ⟨⟨k, e0, e1, n + 1, ([] : Tx), hn2, hn3, ?_, hJ⟩, ?_⟩
     · simp
     · rw [m2, mi]; exact hlen
   · obtain ⟨hlc, hil⟩ := Z1i hi
     have hdl : (r.drop (i + 1)).length = r.length - (i + 1) := List.length_drop
     refine wp_seq ?_
     refine wp_region_lit ?_
     have hE := Env.refl a9 [3]
     refine sd 3 hE k (Z01 rfl rfl) ?_
     intro a24 hE e3 kp
     refine wpList_nil ?_
     replace e0 := hE.g e0; replace e1 := hE.g e1
     replace k := k.env hE
     clear hE e7 e3
     refine Z00 (wp_seq ?_)
     refine wp_seq ?_
     refine wp_region_lit ?_
     have hE := Env.refl a24 [8, 9, 4]
     apply Z05 8 hE k rfl rfl rfl rfl
     case h =>
      simp [go_sem, ↓IntWalk.iteOmega, ev (hE.g e1), hd.1]
      with_reducible rfl
     intro a25 hE e8 kp
     apply Z08 9 hE k rfl (by rfl) (by rfl) rfl
     case h =>
      simp [go_sem, ↓IntWalk.iteOmega, ev e8]
      with_reducible exact ⟨rfl, rfl⟩
     case hc => exact Z4p r _
     rintro e _ ⟨rfl, rfl⟩
     refine ⟨_, rfl, ?_⟩
     intro a26 hE e9 kp
     refine sd 4 hE k (Z01 rfl e9) ?_
     intro a27 hE e4 kp
     refine wpList_nil ?_
     replace e0 := hE.g e0; replace e1 := hE.g e1
     replace k := k.env hE
     clear hE
     refine Z00 (wp_seq ?_)
     refine wp_region_lit ?_
     have hE := Env.refl a27 [10, 11]
     refine zm 10 hE k e4 ?_
     intro a28 hE e10 kp
     refine sd 11 hE k (Z06 (Z3b rfl e10 rfl) (decide_eq_true (by omega))) ?_
     intro a29 hE e11 kp
     refine wpList_nil ?_
     replace e0 := hE.g e0; replace e1 := hE.g e1; replace e4 := hE.g e4
     replace k := k.env hE
     clear hE
     refine Z00 ?_
     refine Z0a e11 rfl ?_
     rw [hi] at e4
     refine Z13 (R := Ext) (w0 := w3) [[], [], [1], [0, 1, 2], [], [], [5], [4, 5, 6], [0, 1, 2, 3], [0, 1, 2, 3, 4, 5, 6, 7, 8]] [12, 13, 14, 15, 16, 17, 18, 19, 3] Ext.refl (fun _ _ _ => Ext.trans) (Ext.drew _) (by kernel_rfl) ?_
     apply bd 12 k rfl rfl rfl
     case h =>
      intro ax wx hE hR hF
      have hd := hJb _ _ _ (hJe _ _ _ _ hJ hR)
      simp [go_sem, ↓IntWalk.iteOmega, ev (hE.g e1), hd.1]
      with_reducible rfl
     apply bd 13 k rfl rfl rfl
     case h =>
      intro ax wx hE hR hF
      exact Z02 rfl (hE.g e4)
     apply bd 14 k rfl rfl rfl
     case h =>
      intro ax wx hE hR hF
      have e13 := zhF hF 1 13 ml0
      exact Z39 (v := .int .i64 ↑(i + 1)) (Z0z rfl e13 rfl (by omega)) (Z0x (by omega))
     apply bd 15 k rfl rfl rfl
     case h =>
      intro ax wx hE hR hF
      have e12 := zhF hF 0 12 ml2
      have e14 := zhF hF 2 14 ml0
      exact Z45 (l := r) Tryd.underlying9 rfl e12 e14 (i + 1) rfl (by omega)
     apply bd 16 k rfl rfl rfl
     case h =>
      intro ax wx hE hR hF
      have hd := hJb _ _ _ (hJe _ _ _ _ hJ hR)
      simp [go_sem, ↓IntWalk.iteOmega, ev (hE.g e1), hd.1]
      with_reducible rfl
     apply bd 17 k rfl rfl rfl
     case h =>
      intro ax wx hE hR hF
      exact Z02 rfl (hE.g e4)
     apply bd 18 k rfl rfl rfl
     case h =>
      intro ax wx hE hR hF
      have e17 := zhF hF 5 17 ml0
      exact Z39 (v := .int .i64 ↑(i + 1)) (Z0z rfl e17 rfl (by omega)) (Z0x (by omega))
     apply bd 19 k rfl rfl rfl
     case h =>
      intro ax wx hE hR hF
      have e16 := zhF hF 4 16 ml2
      have e18 := zhF hF 6 18 ml0
      exact Z6u (l := r) Tryd.underlying9 rfl e16 e18 (i + 1) rfl (by omega)
     apply bd 3 k rfl rfl rfl
     case h =>
      intro ax wx hE hR hF
      have e15 := zhF hF 3 15 ml4
      exact Z01 rfl e15
     apply Build.stop
     refine ⟨by kernel_rfl, .inr ⟨by kernel_rfl, _, rfl, rfl, ?_⟩⟩
     intro a30 w31 hE R hF
     have e19 : a30.eval (.tmp 19) = _ := hF 7 (det 19 _) ml1
     have e3 : a30.eval (.tmp 3) = _ := hF 8 (det 3 _) ml0
     clear hF
     replace hJ := hJe _ _ _ _ hJ R
     clear R
     have hd2 := hJb _ _ _ hJ
     refine Z41 (w' := w31.setCell ⟨bs, 0, none⟩ (.string (sB (r.drop (i + 1))))) rfl (by simp [go_sem, ↓IntWalk.iteOmega, ev (hE.g e1), ev e19, hd2.1, hd2.2]) ?_
     clear hd2
     replace hJ := hJs _ _ (r.drop (i + 1)) _ hJ
     generalize w31.setCell ⟨bs, 0, none⟩ (.string (sB (r.drop (i + 1)))) = wN at hJ ⊢
     replace e0 := hE.g e0; replace e1 := hE.g e1
     replace k := k.env hE
     clear hE e4 e11 e19
     refine Z00 ?_
     obtain ⟨hx, hn2⟩ : LS[n]? = some (r.take (i + 1)) ∧ linesL (r.drop (i + 1)) = LS.drop (n + 1) := Z3t (hn.symm.trans hlc)
     obtain ⟨fn, tmps, assign, body, hyr, hRR⟩ := hY _ _ _ _ hJ hx
     refine wp_seq ?_
     refine Z5d ?_
     have hE := Env.refl a30 [21, 22, 23, 24]
     refine Z0v rfl (fun h => hL h) ?_
     refine zm 21 hE k e0 ?_
     intro a32 hE e21 kp
     refine wpList_nil ?_
     refine Z00 ?_
     refine Z0v rfl (fun h => hL h) ?_
     refine zm 22 hE k e3 ?_
     intro a33 hE e22 kp
     replace e21 := kt kp e21
     refine wpList_nil ?_
     refine Z00 ?_
     apply Z59 23 hE k rfl (by rfl) (by rfl) rfl
     case hrun => exact Z44 rfl e21 e22 hyr
     case hdf => rfl
     case hR => exact hRR
     rintro e w35 ⟨rfl, hJ2⟩
     refine ⟨_, rfl, ?_⟩
     intro a34 hE e23 kp
     refine Z0v rfl (fun h => hL h) ?_
     refine sd 24 hE k (Z3a rfl e23) ?_
     intro a36 hE e24 kp
     refine wpList_nil ?_
     refine Z00 ?_
     refine wpListIn_nil ?_
     replace e0 := hE.g e0; replace e1 := hE.g e1
     replace k := k.env hE
     clear hE e3
     refine Z00 ?_
     refine Z0e e24 rfl ?_
     refine wp_skip ?_
     refine Z0i ?_
     refine Z00 ?_
     clear hJ
     have hJ := hJ2
     have m2 := Z2h (hJb _ _ _ hJ).1
     have hn3 := (List.getElem?_eq_some_iff.1 hx).1
     refine ⟨⟨k, e0, e1, n + 1, r.drop (i + 1), hn2, hn3, ?_, hJ⟩, ?_⟩
     · omega
     · rw [m2, mi]; omega
end Go.Proofs.YtgdlnfljfiageaaDoor
