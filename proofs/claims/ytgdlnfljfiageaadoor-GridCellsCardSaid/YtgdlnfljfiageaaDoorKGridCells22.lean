/- grids: the reference's Fit, Good, Text (printed by XGrT.gen.py). -/
import Derived.Test.YtgdlnfljfiageaaDoorKGridCells21
namespace Go.Proofs.YtgdlnfljfiageaaDoor
attribute [local simp] BigFrame.eval_const BigFrame.eval_global BigFrame.eval_func
set_option linter.unusedVariables false
set_option linter.unusedSimpArgs false
open Go.RowKit

/-- A cut on its way, by runes. -/
def CutR (q : Nat) (R : List (Nat × Nat)) (i n p : Nat) : Prop := n ≤ q ∧ cutR q R 0 = ((cutR q (R.drop i) n).1 + p, (cutR q (R.drop i) n).2)
theorem CutR.start (q : Nat) (R : List (Nat × Nat)) : CutR q R 0 0 0 := ⟨Nat.zero_le _, rfl⟩
section
variable {q i n p : Nat} {R : List (Nat × Nat)} {x : Nat × Nat}
theorem Z6e (hx : R[i]? = some x) : R.drop i = x :: R.drop (i + 1) := by
 obtain ⟨h, rfl⟩ := List.getElem?_eq_some_iff.1 hx
 exact List.drop_eq_getElem_cons h
theorem CutR.step (h : CutR q R i n p) (hx : R[i]? = some x) (hw : ¬ q < n + wideN x.1) : CutR q R (i + 1) (n + wideN x.1) (p + x.2) := by
 obtain ⟨h1, h2⟩ := h
 refine ⟨by omega, ?_⟩
 rw [h2, Z6e hx, show ∀ X, cutR q (x :: X) n = if q < n + wideN x.1 then (0, n) else ((cutR q X (n + wideN x.1)).1 + x.2, (cutR q X (n + wideN x.1)).2) from fun _ => rfl, if_neg hw, Nat.add_assoc, Nat.add_comm x.2 p]
theorem CutR.stop (h : CutR q R i n p) (hx : R[i]? = some x) (hw : q < n + wideN x.1) : cutR q R 0 = (p, n) := by
 rw [h.2, Z6e hx, show ∀ X, cutR q (x :: X) n = if q < n + wideN x.1 then (0, n) else ((cutR q X (n + wideN x.1)).1 + x.2, (cutR q X (n + wideN x.1)).2) from fun _ => rfl, if_pos hw, Nat.zero_add]
theorem CutR.end_ (h : CutR q R i n p) (hi : ¬ i < R.length) : cutR q R 0 = (p, n) := by
 rw [h.2, List.drop_eq_nil_of_le (by omega), show cutR q [] n = (0, n) from rfl, Nat.zero_add]
end
theorem sp_add (l : Tx) (m : Nat) : l ++ List.replicate m 32 ++ [32] = l ++ List.replicate (m + 1) (32 : UInt8) := by
 rw [List.append_assoc, List.replicate_succ']
def badR (x : Nat × Nat) : Bool := x == (65533, 1) || oddB x.1
theorem Z36 {l : Tx} : goodB l = ((runesL l).all (fun x => !badR x) && (l.head? != some 32) && (l.getLast? != some 32)) := by
 unfold goodB
 congr 2
 exact congrArg (fun f => List.all (runesL l) f) (funext fun x => by unfold badR; cases (x == (65533, 1)) <;> cases oddB x.1 <;> rfl)
theorem good_no {l : Tx} {x : Nat × Nat} (h : x ∈ runesL l) (hb : badR x = true) : goodB l = false := by
 rw [Z36, Bool.and_eq_false_iff, Bool.and_eq_false_iff]
 exact .inl (.inl (List.all_eq_false.2 ⟨x, h, by rw [hb]; decide⟩))
theorem Z66 {l : Tx} (h : ∀ x ∈ runesL l, badR x = false) : goodB l = ((l.head? != some 32) && (l.getLast? != some 32)) := by
 rw [Z36, List.all_eq_true.2 (fun x hx => by rw [h x hx]; rfl), Bool.true_and]
theorem Z7c {l : Tx} (h : 0 < l.length) : l.head? = some (l.getD 0 0) := by
 cases l with
 | nil => simp at h
 | cons a r => rfl
theorem Z79 {l : Tx} (h : 0 < l.length) : l.getLast? = some (l.getD (l.length - 1) 0) := by
 rw [List.getLast?_eq_getElem?]
 simp only [List.getD]
 rw [List.getElem?_eq_getElem (by omega)]
 rfl
theorem Z5k {X : List (List Tx)} {T : List Tx} (hT : T ∈ X) (h : T.length ≠ (X.headD []).length ∨ 100 < T.length ∨ ∃ s ∈ T, goodB s = false) : tableB X = false := by
 unfold tableB
 rw [Bool.and_eq_false_iff]
 refine .inr (List.all_eq_false.2 ⟨T, hT, ?_⟩)
 rw [Bool.not_eq_true, Bool.and_eq_false_iff, Bool.and_eq_false_iff, decide_eq_false_iff_not, decide_eq_false_iff_not]
 rcases h with h | h | ⟨s, hs, h⟩
 · exact .inl (.inl h)
 · exact .inl (.inr (by omega))
 · exact .inr (List.all_eq_false.2 ⟨s, hs, by rw [h]; decide⟩)
theorem Z8a {X : List (List Tx)} (h1 : X.length ≤ 1000) (h : ∀ T ∈ X, T.length = (X.headD []).length ∧ T.length ≤ 100 ∧ ∀ s ∈ T, goodB s = true) : tableB X = true := by
 unfold tableB
 rw [decide_eq_true h1, Bool.true_and, List.all_eq_true]
 intro T hT
 obtain ⟨a, b, c⟩ := h T hT
 rw [decide_eq_true a, decide_eq_true b, List.all_eq_true.2 c]
 rfl
def rtxt (X : List (List Tx)) : Tx := if tableB X then textL X else []
/-- A line on its way; a text on its way. -/
def lnP (W : Nat → Nat) (T : List Tx) (k : Nat) : Tx := Lib.join (padsL W 0 (T.take k)) bar
theorem Z65 (sep : Tx) (x : Tx) : ∀ xs : List Tx, Lib.join (xs ++ [x]) sep = Lib.join xs sep ++ (if xs.length = 0 then [] else sep) ++ x
 | [] => by rw [List.nil_append, Lib.join_one, Lib.join_nil]; rfl
 | y :: r => by
  rw [List.cons_append, Lib.join_cons, Lib.join_cons, if_neg (by simp)]
  unfold Lib.joinTail
  rw [List.map_append, List.flatten_append]
  simp
theorem Z77 {W : Nat → Nat} {T : List Tx} {k : Nat} {s : Tx} (h : T[k]? = some s) : lnP W T (k + 1) = lnP W T k ++ (if k = 0 then [] else bar) ++ s ++ List.replicate (W k - widthL s) 32 := by
 unfold lnP
 have hk := (List.getElem?_eq_some_iff.1 h).1
 rw [Z3u h, Z65, Z1f, List.length_take, Nat.min_eq_left (by omega)]
 unfold padL
 rw [← List.append_assoc]
theorem lnP_len {W : Nat → Nat} {b : Nat} (hW : ∀ k, W k ≤ b) {T : List Tx} (hs : ∀ s ∈ T, s.length ≤ b) (k : Nat) : (lnP W T k).length ≤ T.length * (2 * b + 3) := by
 unfold lnP
 have h1 := Z29 hW (T.take k) 0 (fun s h => hs s (List.mem_of_mem_take h))
 have h2 := Z3i bar _ h1
 rw [Z1f, List.length_take, show bar.length = 3 from rfl] at h2
 exact Nat.le_trans h2 (Nat.mul_le_mul_right _ (Nat.min_le_right _ _))
def txP (X : List (List Tx)) (i : Nat) : Tx := ((X.take i).map (lineL (colW X))).flatten
theorem Z4g {X : List (List Tx)} {i : Nat} {T : List Tx} (h : X[i]? = some T) : txP X (i + 1) = txP X i ++ lineL (colW X) T := by
 unfold txP
 rw [List.take_add_one, h]
 simp
theorem Z86 {X : List (List Tx)} {i : Nat} (h : X.length ≤ i) : txP X i = textL X := by
 unfold txP textL
 rw [List.take_of_length_le h]
theorem Z3n {u : Tx} (h : u = [] ∨ u.getD (u.length - 1) 0 ≠ 32) : Lib.trimRightB u 32 = u := by
 rcases List.eq_nil_or_concat u with rfl | ⟨q, y, rfl⟩
 · rfl
 · rw [List.concat_eq_append] at h ⊢
   have hy : (q ++ [y]).getD ((q ++ [y]).length - 1) 0 = y := by simp [List.getD]
   have hn : y ≠ 32 := by
    rcases h with h | h
    · simp at h
    · rw [hy] at h; exact h
   unfold Lib.trimRightB
   rw [List.reverse_append]
   show ((y :: q.reverse).dropWhile _).reverse = _
   rw [List.dropWhile_cons, if_neg (by simp [hn])]
   simp
theorem Z89 {u : Tx} (h0 : 0 < u.length) (h : u.getD (u.length - 1) 0 = 32) : Lib.trimRightB u 32 = Lib.trimRightB (u.take (u.length - 1)) 32 := by
 rcases List.eq_nil_or_concat u with rfl | ⟨q, y, rfl⟩
 · simp at h0
 · rw [List.concat_eq_append] at h ⊢
   have hy : (q ++ [y]).getD ((q ++ [y]).length - 1) 0 = y := by simp [List.getD]
   rw [hy] at h
   subst h
   have ht : (q ++ [(32 : UInt8)]).take ((q ++ [(32 : UInt8)]).length - 1) = q := by simp
   rw [ht]
   unfold Lib.trimRightB
   rw [List.reverse_append]
   show ((32 :: q.reverse).dropWhile _).reverse = _
   rw [List.dropWhile_cons, if_pos (by simp)]
theorem Z4u {X : List (List Tx)} {j k : Nat} {T : List Tx} {s : Tx} (h : X[j]? = some T) (hs : T[k]? = some s) : colW (X.take (j + 1)) k = max (colW (X.take j) k) (widthL s) := by
 rw [List.take_add_one, h]
 show colW (X.take j ++ [T]) k = _
 rw [Z3y, List.getD, hs]
 rfl

set_option maxRecDepth 100000 in
set_option maxHeartbeats 4000000 in
theorem Z2k (l : Tx) (W0 : World) (hl : l.length ≤ 100000) : Calls Tryd.prog 21 #[.string (sB l)] W0 fun e w' => e = .returned (.bool (goodB l)) ∧ Ext W0 w' := by
 have O := OwnT.start W0
 have hrl := Z1r l.length l (Nat.le_refl _)
 have hrm := Z3e l.length l (Nat.le_refl _)

 refine Z0m Tryd.func21 rfl 66 rfl (by rfl) ?_
 intro a1 k hargs
 have e0 : a1.eval (.tmp 0) = .string (sB l) := hargs 0 _ rfl
 clear hargs
 have hgn := fun x => @good_no l x
 have hge := @Z66 l
 refine wp_seq ?_
 refine wp_region_lit ?_
 have hE := Env.refl a1 [2]
 refine sd 2 hE k (Z03 rfl rfl) ?_
 intro a2 hE e2 kp
 refine wpList_nil ?_
 replace e0 := hE.g e0
 replace k := k.env hE
 clear hE e2
 refine Z01 (wp_seq ?_)
 refine wp_region_lit ?_
 have hE := Env.refl a2 [7, 8, 6, 9, 10, 3, 4]
 refine zm 7 hE k e0 ?_
 intro a3 hE e7 kp
 apply Z0d 8 hE k rfl (by rfl) (by rfl) rfl
 case h =>
  simp [go_sem, ↓IntWalk.iteOmega, ev e7]
  with_reducible exact ⟨rfl, rfl⟩
 case hc => exact Z32 l _ hl
 rintro e w5 ⟨B1, c1, B2, c2, rfl, r1, r2, RE⟩
 have hw := Ext.refl w5
 replace O := OwnT.ext O RE
 refine ⟨_, rfl, ?_⟩
 intro a4 hE e8 kp
 refine sd 6 hE k (Z02 rfl e8) ?_
 intro a6 hE e6 kp
 apply Z08 9 hE k rfl rfl rfl rfl
 case h =>
  simp [go_sem, ↓IntWalk.iteOmega, ev e6]
  with_reducible rfl
 intro a7 hE e9 kp
 replace e6 := kt kp e6
 apply Z08 10 hE k rfl rfl rfl rfl
 case h =>
  simp [go_sem, ↓IntWalk.iteOmega, ev e6]
  with_reducible rfl
 intro a8 hE e10 kp
 replace e9 := kt kp e9
 refine sd 3 hE k (Z03 rfl e9) ?_
 intro a9 hE e3 kp
 replace e10 := kt kp e10
 refine sd 4 hE k (Z03 rfl e10) ?_
 intro a10 hE e4 kp
 replace e3 := kt kp e3
 refine wpList_nil ?_
 replace e0 := hE.g e0
 replace k := k.env hE
 clear hE
 refine Z01 ?_
 obtain ⟨R, hR_⟩ : ∃ R, runesL l = R := ⟨_, rfl⟩
 rw [hR_] at hrl hrm r1 r2
 rw [hR_] at e3
 rw [hR_] at e4
 rw [hR_] at hgn hge
 refine wp_seq ?_
 refine wp_seq ?_
 refine wp_region_lit ?_
 have hE := Env.refl a10 [5]
 refine sd 5 hE k (Z03 rfl rfl) ?_
 intro a11 hE e5 kp
 refine wpList_nil ?_
 replace e0 := hE.g e0; replace e3 := hE.g e3; replace e4 := hE.g e4
 replace k := k.env hE
 clear hE
 refine Z01 ?_
 refine wp_block ?_
 refine wp_loop (fun a w => Fr 66 a ∧ a.eval (.tmp 0) = .string (sB l) ∧ a.eval (.tmp 3) = .slice B1 R.length c1 ∧ a.eval (.tmp 4) = .slice B2 R.length c2 ∧ ∃ (i : Nat), a.eval (.tmp 5) = .int .i64 ↑i ∧ i ≤ R.length ∧ (∀ x ∈ R.take i, badR x = false) ∧ Ext w5 w ∧ OwnT W0.heap.size W0 [] w) (fun a w => R.length - (intOf (a.eval (.tmp 5))).toNat) ?_ ?_
 · exact ⟨k, e0, e3, e4, 0, e5, Nat.zero_le _, (fun x h => by simp at h), hw, O⟩
 intro a12 w13 hI
 clear k e0 e3 e4
 obtain ⟨k, e0, e3, e4, h_⟩ := hI
 clear O hw e5
 obtain ⟨i, e5, hi, hall, hw, O⟩ := h_
 have mi := e5

 by_cases hlt : i < R.length
 · skip
   have hzI : (i : Int) < (R.length : Int) := by omega
   obtain ⟨x, hx⟩ : ∃ x, R[i]? = some x := ⟨_, List.getElem?_eq_getElem hlt⟩
   obtain ⟨b, o, hA, hc⟩ := Z1e r1 hx
   obtain ⟨b2, o2, hA2, hc2⟩ := Z1e r2 hx
   subst hA hA2
   have hw2 := Z2f x.1
   obtain ⟨hx1, hx2, hx3⟩ := hrm x (List.mem_of_getElem? hx)

   by_cases k1 : x.1 = 65533
   · by_cases k2 : x.2 = 1
     · skip
       refine wp_seq ?_
       refine wp_seq ?_
       refine wp_region_lit ?_
       have hE := Env.refl a12 [11, 12, 13, 14]
       refine zm 11 hE k e5 ?_
       intro a14 hE e11 kp
       refine zm 12 hE k e3 ?_
       intro a15 hE e12 kp
       replace e11 := kt kp e11
       refine sd 13 hE k (Z0g Tryd.underlying54 rfl e12) ?_
       intro a16 hE e13 kp
       replace e11 := kt kp e11
       refine sd 14 hE k (Z05 (Z0c rfl e11 e13) (decide_eq_true (by omega))) ?_
       intro a17 hE e14 kp
       refine wpList_nil ?_
       replace e0 := hE.g e0; replace e3 := hE.g e3; replace e4 := hE.g e4; replace e5 := hE.g e5
       replace k := k.env hE
       clear hE
       refine Z01 ?_
       refine Z09 e14 rfl ?_
       refine wp_skip ?_
       refine Z01 (wp_seq ?_)
       refine wp_block ?_
       refine wp_seq ?_
       refine wp_region_lit ?_
       have hE := Env.refl a17 [17, 18, 19, 20, 21, 22, 23, 24, 25, 26, 27, 28, 29, 30, 31, 32, 33, 34, 35, 36, 37, 38, 39, 40, 41, 42, 43, 44, 45, 46, 47, 48, 49]
       refine zm 17 hE k e3 ?_
       intro a18 hE e17 kp
       refine zm 18 hE k e5 ?_
       intro a19 hE e18 kp
       replace e17 := kt kp e17
       apply Z08 19 hE k rfl rfl rfl rfl
       case h =>
        simp [go_sem, ↓IntWalk.iteOmega, ev e17, ev e18]
        with_reducible rfl
       intro a20 hE e19 kp
       apply Z08 20 hE k rfl rfl rfl rfl
       case h =>
        simp [go_sem, ↓IntWalk.iteOmega, ev e19, hc _ hw i x hx, ruE]
        with_reducible rfl
       intro a21 hE e20 kp
       refine sd 21 hE k (Z05 (Z0k rfl e20 rfl) (decide_eq_true (by omega))) ?_
       intro a22 hE e21 kp
       refine sd 22 hE k (Z02 rfl e21) ?_
       intro a23 hE e22 kp
       apply Z00 23 hE k rfl rfl rfl rfl rfl e22
       case h =>
        exact Z02 rfl (hE.g e4)
       intro a24 hE e23 kp
       replace e22 := kt kp e22
       apply Z00 24 hE k rfl rfl rfl rfl rfl e22
       case h =>
        exact Z02 rfl (hE.g e5)
       intro a25 hE e24 kp
       replace e22 := kt kp e22; replace e23 := kt kp e23
       apply Z00 25 hE k rfl rfl rfl rfl rfl e22
       case h =>
        simp [go_sem, ↓IntWalk.iteOmega, ev e23, ev e24]
        with_reducible rfl
       intro a26 hE e25 kp
       replace e22 := kt kp e22
       apply Z00 26 hE k rfl rfl rfl rfl rfl e22
       case h =>
        simp [go_sem, ↓IntWalk.iteOmega, ev e25, hc2 _ hw i x hx, szE]
        with_reducible rfl
       intro a27 hE e26 kp
       replace e22 := kt kp e22
       apply Z00 27 hE k rfl rfl rfl rfl rfl e22
       case h =>
        exact Z05 (Z0k rfl e26 rfl) (decide_eq_true (by omega))
       intro a28 hE e27 kp
       replace e22 := kt kp e22
       refine sd 28 hE k (Z07 rfl e22 e27) ?_
       intro a29 hE e28 kp
       refine sd 29 hE k (Z02 rfl e28) ?_
       intro a30 hE e29 kp
       refine Z04 30 hE k rfl (by rfl) (by rfl) rfl rfl (.inl e29) ?_
       intro a31 hE e30 kp
       replace e29 := kt kp e29
       refine Z04 31 hE k rfl (by rfl) (by rfl) rfl rfl (.inl e29) ?_
       intro a32 hE e31 kp
       replace e29 := kt kp e29; replace e30 := kt kp e30
       refine Z04 32 hE k rfl (by rfl) (by rfl) rfl rfl (.inl e29) ?_
       intro a33 hE e32 kp
       replace e29 := kt kp e29
       refine Z04 33 hE k rfl (by rfl) (by rfl) rfl rfl (.inl e29) ?_
       intro a34 hE e33 kp
       replace e29 := kt kp e29
       refine Z04 34 hE k rfl (by rfl) (by rfl) rfl rfl (.inl e29) ?_
       intro a35 hE e34 kp
       replace e29 := kt kp e29
       refine sd 35 hE k (Z07 rfl e29 rfl) ?_
       intro a36 hE e35 kp
       refine sd 36 hE k (Z02 rfl e35) ?_
       intro a37 hE e36 kp
       refine Z04 37 hE k rfl (by rfl) (by rfl) rfl rfl (.inl e36) ?_
       intro a38 hE e37 kp
       replace e36 := kt kp e36
       refine Z04 38 hE k rfl (by rfl) (by rfl) rfl rfl (.inl e36) ?_
       intro a39 hE e38 kp
       replace e36 := kt kp e36; replace e37 := kt kp e37
       refine Z04 39 hE k rfl (by rfl) (by rfl) rfl rfl (.inl e36) ?_
       intro a40 hE e39 kp
       replace e36 := kt kp e36
       refine Z04 40 hE k rfl (by rfl) (by rfl) rfl rfl (.inl e36) ?_
       intro a41 hE e40 kp
       replace e36 := kt kp e36
       refine Z04 41 hE k rfl (by rfl) (by rfl) rfl rfl (.inl e36) ?_
       intro a42 hE e41 kp
       replace e36 := kt kp e36
       refine sd 42 hE k (Z07 rfl e36 rfl) ?_
       intro a43 hE e42 kp
       refine sd 43 hE k (Z02 rfl e42) ?_
       intro a44 hE e43 kp
       refine Z04 44 hE k rfl (by rfl) (by rfl) rfl rfl (.inl e43) ?_
       intro a45 hE e44 kp
       replace e43 := kt kp e43
       refine Z04 45 hE k rfl (by rfl) (by rfl) rfl rfl (.inl e43) ?_
       intro a46 hE e45 kp
       replace e43 := kt kp e43; replace e44 := kt kp e44
       refine Z04 46 hE k rfl (by rfl) (by rfl) rfl rfl (.inl e43) ?_
       intro a47 hE e46 kp
       replace e43 := kt kp e43
       refine Z04 47 hE k rfl (by rfl) (by rfl) rfl rfl (.inl e43) ?_
       intro a48 hE e47 kp
       replace e43 := kt kp e43
       refine Z04 48 hE k rfl (by rfl) (by rfl) rfl rfl (.inl e43) ?_
       intro a49 hE e48 kp
       replace e43 := kt kp e43
       refine sd 49 hE k (Z07 rfl e43 rfl) ?_
       intro a50 hE e49 kp
       refine wpList_nil ?_
       replace e0 := hE.g e0; replace e3 := hE.g e3; replace e4 := hE.g e4; replace e5 := hE.g e5
       replace k := k.env hE
       clear hE e14
       refine Z01 ?_
       refine Z09 e49 rfl ?_
       refine wp_seq ?_
       refine wp_region_lit ?_
       have hE := Env.refl a50 [2]
       refine sd 2 hE k (Z03 rfl rfl) ?_
       intro a51 hE e2 kp
       refine wpList_nil ?_
       replace k := k.env hE
       clear hE e0 e3 e4 e5 e49
       refine Z01 ?_
       refine wp_ret ?_
       refine Z0h ?_
       refine Z0a ?_
       refine Z0a ?_
       refine Z0h ?_
       refine Z0a ?_
       refine Z0e rfl k e2 ?_
       exact ⟨by rw [hgn x (List.mem_of_getElem? hx) (by unfold badR; rw [show x = (65533, 1) from Prod.ext k1 k2]; rfl)]; first | done | rfl, O.below⟩
     · skip
       by_cases k3 : x.1 < 32
       · skip
         refine wp_seq ?_
         refine wp_seq ?_
         refine wp_region_lit ?_
         have hE := Env.refl a12 [11, 12, 13, 14]
         refine zm 11 hE k e5 ?_
         intro a52 hE e11 kp
         refine zm 12 hE k e3 ?_
         intro a53 hE e12 kp
         replace e11 := kt kp e11
         refine sd 13 hE k (Z0g Tryd.underlying54 rfl e12) ?_
         intro a54 hE e13 kp
         replace e11 := kt kp e11
         refine sd 14 hE k (Z05 (Z0c rfl e11 e13) (decide_eq_true (by omega))) ?_
         intro a55 hE e14 kp
         refine wpList_nil ?_
         replace e0 := hE.g e0; replace e3 := hE.g e3; replace e4 := hE.g e4; replace e5 := hE.g e5
         replace k := k.env hE
         clear hE
         refine Z01 ?_
         refine Z09 e14 rfl ?_
         refine wp_skip ?_
         refine Z01 (wp_seq ?_)
         refine wp_block ?_
         refine wp_seq ?_
         refine wp_region_lit ?_
         have hE := Env.refl a55 [17, 18, 19, 20, 21, 22, 23, 24, 25, 26, 27, 28, 29, 30, 31, 32, 33, 34, 35, 36, 37, 38, 39, 40, 41, 42, 43, 44, 45, 46, 47, 48, 49]
         refine zm 17 hE k e3 ?_
         intro a56 hE e17 kp
         refine zm 18 hE k e5 ?_
         intro a57 hE e18 kp
         replace e17 := kt kp e17
         apply Z08 19 hE k rfl rfl rfl rfl
         case h =>
          simp [go_sem, ↓IntWalk.iteOmega, ev e17, ev e18]
          with_reducible rfl
         intro a58 hE e19 kp
         apply Z08 20 hE k rfl rfl rfl rfl
         case h =>
          simp [go_sem, ↓IntWalk.iteOmega, ev e19, hc _ hw i x hx, ruE]
          with_reducible rfl
         intro a59 hE e20 kp
         refine sd 21 hE k (Z05 (Z0k rfl e20 rfl) (decide_eq_true (by omega))) ?_
         intro a60 hE e21 kp
         refine sd 22 hE k (Z02 rfl e21) ?_
         intro a61 hE e22 kp
         apply Z00 23 hE k rfl rfl rfl rfl rfl e22
         case h =>
          exact Z02 rfl (hE.g e4)
         intro a62 hE e23 kp
         replace e22 := kt kp e22
         apply Z00 24 hE k rfl rfl rfl rfl rfl e22
         case h =>
          exact Z02 rfl (hE.g e5)
         intro a63 hE e24 kp
         replace e22 := kt kp e22; replace e23 := kt kp e23
         apply Z00 25 hE k rfl rfl rfl rfl rfl e22
         case h =>
          simp [go_sem, ↓IntWalk.iteOmega, ev e23, ev e24]
          with_reducible rfl
         intro a64 hE e25 kp
         replace e22 := kt kp e22
         apply Z00 26 hE k rfl rfl rfl rfl rfl e22
         case h =>
          simp [go_sem, ↓IntWalk.iteOmega, ev e25, hc2 _ hw i x hx, szE]
          with_reducible rfl
         intro a65 hE e26 kp
         replace e22 := kt kp e22
         apply Z00 27 hE k rfl rfl rfl rfl rfl e22
         case h =>
          exact Z05 (Z0k rfl e26 rfl) (decide_eq_false (by omega))
         intro a66 hE e27 kp
         replace e22 := kt kp e22
         refine sd 28 hE k (Z07 rfl e22 e27) ?_
         intro a67 hE e28 kp
         refine sd 29 hE k (Z02 rfl e28) ?_
         intro a68 hE e29 kp
         apply Z00 30 hE k rfl rfl rfl rfl rfl e29
         case h =>
          exact Z02 rfl (hE.g e3)
         intro a69 hE e30 kp
         replace e29 := kt kp e29
         apply Z00 31 hE k rfl rfl rfl rfl rfl e29
         case h =>
          exact Z02 rfl (hE.g e5)
         intro a70 hE e31 kp
         replace e29 := kt kp e29; replace e30 := kt kp e30
         apply Z00 32 hE k rfl rfl rfl rfl rfl e29
         case h =>
          simp [go_sem, ↓IntWalk.iteOmega, ev e30, ev e31]
          with_reducible rfl
         intro a71 hE e32 kp
         replace e29 := kt kp e29
         apply Z00 33 hE k rfl rfl rfl rfl rfl e29
         case h =>
          simp [go_sem, ↓IntWalk.iteOmega, ev e32, hc _ hw i x hx, ruE]
          with_reducible rfl
         intro a72 hE e33 kp
         replace e29 := kt kp e29
         apply Z00 34 hE k rfl rfl rfl rfl rfl e29
         case h =>
          exact Z05 (Z0c rfl e33 rfl) (decide_eq_true (by omega))
         intro a73 hE e34 kp
         replace e29 := kt kp e29
         refine sd 35 hE k (Z06 rfl e29 e34) ?_
         intro a74 hE e35 kp
         refine sd 36 hE k (Z02 rfl e35) ?_
         intro a75 hE e36 kp
         refine Z04 37 hE k rfl (by rfl) (by rfl) rfl rfl (.inl e36) ?_
         intro a76 hE e37 kp
         replace e36 := kt kp e36
         refine Z04 38 hE k rfl (by rfl) (by rfl) rfl rfl (.inl e36) ?_
         intro a77 hE e38 kp
         replace e36 := kt kp e36; replace e37 := kt kp e37
         refine Z04 39 hE k rfl (by rfl) (by rfl) rfl rfl (.inl e36) ?_
         intro a78 hE e39 kp
         replace e36 := kt kp e36
         refine Z04 40 hE k rfl (by rfl) (by rfl) rfl rfl (.inl e36) ?_
         intro a79 hE e40 kp
         replace e36 := kt kp e36
         refine Z04 41 hE k rfl (by rfl) (by rfl) rfl rfl (.inl e36) ?_
         intro a80 hE e41 kp
         replace e36 := kt kp e36
         refine sd 42 hE k (Z07 rfl e36 rfl) ?_
         intro a81 hE e42 kp
         refine sd 43 hE k (Z02 rfl e42) ?_
         intro a82 hE e43 kp
         refine Z04 44 hE k rfl (by rfl) (by rfl) rfl rfl (.inl e43) ?_
         intro a83 hE e44 kp
         replace e43 := kt kp e43
         refine Z04 45 hE k rfl (by rfl) (by rfl) rfl rfl (.inl e43) ?_
         intro a84 hE e45 kp
         replace e43 := kt kp e43; replace e44 := kt kp e44
         refine Z04 46 hE k rfl (by rfl) (by rfl) rfl rfl (.inl e43) ?_
         intro a85 hE e46 kp
         replace e43 := kt kp e43
         refine Z04 47 hE k rfl (by rfl) (by rfl) rfl rfl (.inl e43) ?_
         intro a86 hE e47 kp
         replace e43 := kt kp e43
         refine Z04 48 hE k rfl (by rfl) (by rfl) rfl rfl (.inl e43) ?_
         intro a87 hE e48 kp
         replace e43 := kt kp e43
         refine sd 49 hE k (Z07 rfl e43 rfl) ?_
         intro a88 hE e49 kp
         refine wpList_nil ?_
         replace e0 := hE.g e0; replace e3 := hE.g e3; replace e4 := hE.g e4; replace e5 := hE.g e5
         replace k := k.env hE
         clear hE e14
         refine Z01 ?_
         refine Z09 e49 rfl ?_
         refine wp_seq ?_
         refine wp_region_lit ?_
         have hE := Env.refl a88 [2]
         refine sd 2 hE k (Z03 rfl rfl) ?_
         intro a89 hE e2 kp
         refine wpList_nil ?_
         replace k := k.env hE
         clear hE e0 e3 e4 e5 e49
         refine Z01 ?_
         refine wp_ret ?_
         refine Z0h ?_
         refine Z0a ?_
         refine Z0a ?_
         refine Z0h ?_
         refine Z0a ?_
         refine Z0e rfl k e2 ?_
         exact ⟨by rw [hgn x (List.mem_of_getElem? hx) (by unfold badR oddB; rw [decide_eq_true (.inl k3), Bool.or_true])]; first | done | rfl, O.below⟩
       · by_cases k4 : x.1 = 127
         · skip
           refine wp_seq ?_
           refine wp_seq ?_
           refine wp_region_lit ?_
           have hE := Env.refl a12 [11, 12, 13, 14]
           refine zm 11 hE k e5 ?_
           intro a90 hE e11 kp
           refine zm 12 hE k e3 ?_
           intro a91 hE e12 kp
           replace e11 := kt kp e11
           refine sd 13 hE k (Z0g Tryd.underlying54 rfl e12) ?_
           intro a92 hE e13 kp
           replace e11 := kt kp e11
           refine sd 14 hE k (Z05 (Z0c rfl e11 e13) (decide_eq_true (by omega))) ?_
           intro a93 hE e14 kp
           refine wpList_nil ?_
           replace e0 := hE.g e0; replace e3 := hE.g e3; replace e4 := hE.g e4; replace e5 := hE.g e5
           replace k := k.env hE
           clear hE
           refine Z01 ?_
           refine Z09 e14 rfl ?_
           refine wp_skip ?_
           refine Z01 (wp_seq ?_)
           refine wp_block ?_
           refine wp_seq ?_
           refine wp_region_lit ?_
           have hE := Env.refl a93 [17, 18, 19, 20, 21, 22, 23, 24, 25, 26, 27, 28, 29, 30, 31, 32, 33, 34, 35, 36, 37, 38, 39, 40, 41, 42, 43, 44, 45, 46, 47, 48, 49]
           refine zm 17 hE k e3 ?_
           intro a94 hE e17 kp
           refine zm 18 hE k e5 ?_
           intro a95 hE e18 kp
           replace e17 := kt kp e17
           apply Z08 19 hE k rfl rfl rfl rfl
           case h =>
            simp [go_sem, ↓IntWalk.iteOmega, ev e17, ev e18]
            with_reducible rfl
           intro a96 hE e19 kp
           apply Z08 20 hE k rfl rfl rfl rfl
           case h =>
            simp [go_sem, ↓IntWalk.iteOmega, ev e19, hc _ hw i x hx, ruE]
            with_reducible rfl
           intro a97 hE e20 kp
           refine sd 21 hE k (Z05 (Z0k rfl e20 rfl) (decide_eq_true (by omega))) ?_
           intro a98 hE e21 kp
           refine sd 22 hE k (Z02 rfl e21) ?_
           intro a99 hE e22 kp
           apply Z00 23 hE k rfl rfl rfl rfl rfl e22
           case h =>
            exact Z02 rfl (hE.g e4)
           intro a100 hE e23 kp
           replace e22 := kt kp e22
           apply Z00 24 hE k rfl rfl rfl rfl rfl e22
           case h =>
            exact Z02 rfl (hE.g e5)
           intro a101 hE e24 kp
           replace e22 := kt kp e22; replace e23 := kt kp e23
           apply Z00 25 hE k rfl rfl rfl rfl rfl e22
           case h =>
            simp [go_sem, ↓IntWalk.iteOmega, ev e23, ev e24]
            with_reducible rfl
           intro a102 hE e25 kp
           replace e22 := kt kp e22
           apply Z00 26 hE k rfl rfl rfl rfl rfl e22
           case h =>
            simp [go_sem, ↓IntWalk.iteOmega, ev e25, hc2 _ hw i x hx, szE]
            with_reducible rfl
           intro a103 hE e26 kp
           replace e22 := kt kp e22
           apply Z00 27 hE k rfl rfl rfl rfl rfl e22
           case h =>
            exact Z05 (Z0k rfl e26 rfl) (decide_eq_false (by omega))
           intro a104 hE e27 kp
           replace e22 := kt kp e22
           refine sd 28 hE k (Z07 rfl e22 e27) ?_
           intro a105 hE e28 kp
           refine sd 29 hE k (Z02 rfl e28) ?_
           intro a106 hE e29 kp
           apply Z00 30 hE k rfl rfl rfl rfl rfl e29
           case h =>
            exact Z02 rfl (hE.g e3)
           intro a107 hE e30 kp
           replace e29 := kt kp e29
           apply Z00 31 hE k rfl rfl rfl rfl rfl e29
           case h =>
            exact Z02 rfl (hE.g e5)
           intro a108 hE e31 kp
           replace e29 := kt kp e29; replace e30 := kt kp e30
           apply Z00 32 hE k rfl rfl rfl rfl rfl e29
           case h =>
            simp [go_sem, ↓IntWalk.iteOmega, ev e30, ev e31]
            with_reducible rfl
           intro a109 hE e32 kp
           replace e29 := kt kp e29
           apply Z00 33 hE k rfl rfl rfl rfl rfl e29
           case h =>
            simp [go_sem, ↓IntWalk.iteOmega, ev e32, hc _ hw i x hx, ruE]
            with_reducible rfl
           intro a110 hE e33 kp
           replace e29 := kt kp e29
           apply Z00 34 hE k rfl rfl rfl rfl rfl e29
           case h =>
            exact Z05 (Z0c rfl e33 rfl) (decide_eq_false (by omega))
           intro a111 hE e34 kp
           replace e29 := kt kp e29
           refine sd 35 hE k (Z06 rfl e29 e34) ?_
           intro a112 hE e35 kp
           refine sd 36 hE k (Z02 rfl e35) ?_
           intro a113 hE e36 kp
           apply Z00 37 hE k rfl rfl rfl rfl rfl e36
           case h =>
            exact Z02 rfl (hE.g e3)
           intro a114 hE e37 kp
           replace e36 := kt kp e36
           apply Z00 38 hE k rfl rfl rfl rfl rfl e36
           case h =>
            exact Z02 rfl (hE.g e5)
           intro a115 hE e38 kp
           replace e36 := kt kp e36; replace e37 := kt kp e37
           apply Z00 39 hE k rfl rfl rfl rfl rfl e36
           case h =>
            simp [go_sem, ↓IntWalk.iteOmega, ev e37, ev e38]
            with_reducible rfl
           intro a116 hE e39 kp
           replace e36 := kt kp e36
           apply Z00 40 hE k rfl rfl rfl rfl rfl e36
           case h =>
            simp [go_sem, ↓IntWalk.iteOmega, ev e39, hc _ hw i x hx, ruE]
            with_reducible rfl
           intro a117 hE e40 kp
           replace e36 := kt kp e36
           apply Z00 41 hE k rfl rfl rfl rfl rfl e36
           case h =>
            exact Z05 (Z0k rfl e40 rfl) (decide_eq_true (by omega))
           intro a118 hE e41 kp
           replace e36 := kt kp e36
           refine sd 42 hE k (Z06 rfl e36 e41) ?_
           intro a119 hE e42 kp
           refine sd 43 hE k (Z02 rfl e42) ?_
           intro a120 hE e43 kp
           refine Z04 44 hE k rfl (by rfl) (by rfl) rfl rfl (.inl e43) ?_
           intro a121 hE e44 kp
           replace e43 := kt kp e43
           refine Z04 45 hE k rfl (by rfl) (by rfl) rfl rfl (.inl e43) ?_
           intro a122 hE e45 kp
           replace e43 := kt kp e43; replace e44 := kt kp e44
           refine Z04 46 hE k rfl (by rfl) (by rfl) rfl rfl (.inl e43) ?_
           intro a123 hE e46 kp
           replace e43 := kt kp e43
           refine Z04 47 hE k rfl (by rfl) (by rfl) rfl rfl (.inl e43) ?_
           intro a124 hE e47 kp
           replace e43 := kt kp e43
           refine Z04 48 hE k rfl (by rfl) (by rfl) rfl rfl (.inl e43) ?_
           intro a125 hE e48 kp
           replace e43 := kt kp e43
           refine sd 49 hE k (Z07 rfl e43 rfl) ?_
           intro a126 hE e49 kp
           refine wpList_nil ?_
           replace e0 := hE.g e0; replace e3 := hE.g e3; replace e4 := hE.g e4; replace e5 := hE.g e5
           replace k := k.env hE
           clear hE e14
           refine Z01 ?_
           refine Z09 e49 rfl ?_
           refine wp_seq ?_
           refine wp_region_lit ?_
           have hE := Env.refl a126 [2]
           refine sd 2 hE k (Z03 rfl rfl) ?_
           intro a127 hE e2 kp
           refine wpList_nil ?_
           replace k := k.env hE
           clear hE e0 e3 e4 e5 e49
           refine Z01 ?_
           refine wp_ret ?_
           refine Z0h ?_
           refine Z0a ?_
           refine Z0a ?_
           refine Z0h ?_
           refine Z0a ?_
           refine Z0e rfl k e2 ?_
           exact ⟨by rw [hgn x (List.mem_of_getElem? hx) (by unfold badR oddB; rw [decide_eq_true (.inr (.inl k4)), Bool.or_true])]; first | done | rfl, O.below⟩
         · by_cases k5 : x.1 = 9474
           · skip
             refine wp_seq ?_
             refine wp_seq ?_
             refine wp_region_lit ?_
             have hE := Env.refl a12 [11, 12, 13, 14]
             refine zm 11 hE k e5 ?_
             intro a128 hE e11 kp
             refine zm 12 hE k e3 ?_
             intro a129 hE e12 kp
             replace e11 := kt kp e11
             refine sd 13 hE k (Z0g Tryd.underlying54 rfl e12) ?_
             intro a130 hE e13 kp
             replace e11 := kt kp e11
             refine sd 14 hE k (Z05 (Z0c rfl e11 e13) (decide_eq_true (by omega))) ?_
             intro a131 hE e14 kp
             refine wpList_nil ?_
             replace e0 := hE.g e0; replace e3 := hE.g e3; replace e4 := hE.g e4; replace e5 := hE.g e5
             replace k := k.env hE
             clear hE
             refine Z01 ?_
             refine Z09 e14 rfl ?_
             refine wp_skip ?_
             refine Z01 (wp_seq ?_)
             refine wp_block ?_
             refine wp_seq ?_
             refine wp_region_lit ?_
             have hE := Env.refl a131 [17, 18, 19, 20, 21, 22, 23, 24, 25, 26, 27, 28, 29, 30, 31, 32, 33, 34, 35, 36, 37, 38, 39, 40, 41, 42, 43, 44, 45, 46, 47, 48, 49]
             refine zm 17 hE k e3 ?_
             intro a132 hE e17 kp
             refine zm 18 hE k e5 ?_
             intro a133 hE e18 kp
             replace e17 := kt kp e17
             apply Z08 19 hE k rfl rfl rfl rfl
             case h =>
              simp [go_sem, ↓IntWalk.iteOmega, ev e17, ev e18]
              with_reducible rfl
             intro a134 hE e19 kp
             apply Z08 20 hE k rfl rfl rfl rfl
             case h =>
              simp [go_sem, ↓IntWalk.iteOmega, ev e19, hc _ hw i x hx, ruE]
              with_reducible rfl
             intro a135 hE e20 kp
             refine sd 21 hE k (Z05 (Z0k rfl e20 rfl) (decide_eq_true (by omega))) ?_
             intro a136 hE e21 kp
             refine sd 22 hE k (Z02 rfl e21) ?_
             intro a137 hE e22 kp
             apply Z00 23 hE k rfl rfl rfl rfl rfl e22
             case h =>
              exact Z02 rfl (hE.g e4)
             intro a138 hE e23 kp
             replace e22 := kt kp e22
             apply Z00 24 hE k rfl rfl rfl rfl rfl e22
             case h =>
              exact Z02 rfl (hE.g e5)
             intro a139 hE e24 kp
             replace e22 := kt kp e22; replace e23 := kt kp e23
             apply Z00 25 hE k rfl rfl rfl rfl rfl e22
             case h =>
              simp [go_sem, ↓IntWalk.iteOmega, ev e23, ev e24]
              with_reducible rfl
             intro a140 hE e25 kp
             replace e22 := kt kp e22
             apply Z00 26 hE k rfl rfl rfl rfl rfl e22
             case h =>
              simp [go_sem, ↓IntWalk.iteOmega, ev e25, hc2 _ hw i x hx, szE]
              with_reducible rfl
             intro a141 hE e26 kp
             replace e22 := kt kp e22
             apply Z00 27 hE k rfl rfl rfl rfl rfl e22
             case h =>
              exact Z05 (Z0k rfl e26 rfl) (decide_eq_false (by omega))
             intro a142 hE e27 kp
             replace e22 := kt kp e22
             refine sd 28 hE k (Z07 rfl e22 e27) ?_
             intro a143 hE e28 kp
             refine sd 29 hE k (Z02 rfl e28) ?_
             intro a144 hE e29 kp
             apply Z00 30 hE k rfl rfl rfl rfl rfl e29
             case h =>
              exact Z02 rfl (hE.g e3)
             intro a145 hE e30 kp
             replace e29 := kt kp e29
             apply Z00 31 hE k rfl rfl rfl rfl rfl e29
             case h =>
              exact Z02 rfl (hE.g e5)
             intro a146 hE e31 kp
             replace e29 := kt kp e29; replace e30 := kt kp e30
             apply Z00 32 hE k rfl rfl rfl rfl rfl e29
             case h =>
              simp [go_sem, ↓IntWalk.iteOmega, ev e30, ev e31]
              with_reducible rfl
             intro a147 hE e32 kp
             replace e29 := kt kp e29
             apply Z00 33 hE k rfl rfl rfl rfl rfl e29
             case h =>
              simp [go_sem, ↓IntWalk.iteOmega, ev e32, hc _ hw i x hx, ruE]
              with_reducible rfl
             intro a148 hE e33 kp
             replace e29 := kt kp e29
             apply Z00 34 hE k rfl rfl rfl rfl rfl e29
             case h =>
              exact Z05 (Z0c rfl e33 rfl) (decide_eq_false (by omega))
             intro a149 hE e34 kp
             replace e29 := kt kp e29
             refine sd 35 hE k (Z06 rfl e29 e34) ?_
             intro a150 hE e35 kp
             refine sd 36 hE k (Z02 rfl e35) ?_
             intro a151 hE e36 kp
             apply Z00 37 hE k rfl rfl rfl rfl rfl e36
             case h =>
              exact Z02 rfl (hE.g e3)
             intro a152 hE e37 kp
             replace e36 := kt kp e36
             apply Z00 38 hE k rfl rfl rfl rfl rfl e36
             case h =>
              exact Z02 rfl (hE.g e5)
             intro a153 hE e38 kp
             replace e36 := kt kp e36; replace e37 := kt kp e37
             apply Z00 39 hE k rfl rfl rfl rfl rfl e36
             case h =>
              simp [go_sem, ↓IntWalk.iteOmega, ev e37, ev e38]
              with_reducible rfl
             intro a154 hE e39 kp
             replace e36 := kt kp e36
             apply Z00 40 hE k rfl rfl rfl rfl rfl e36
             case h =>
              simp [go_sem, ↓IntWalk.iteOmega, ev e39, hc _ hw i x hx, ruE]
              with_reducible rfl
             intro a155 hE e40 kp
             replace e36 := kt kp e36
             apply Z00 41 hE k rfl rfl rfl rfl rfl e36
             case h =>
              exact Z05 (Z0k rfl e40 rfl) (decide_eq_false (by omega))
             intro a156 hE e41 kp
             replace e36 := kt kp e36
             refine sd 42 hE k (Z06 rfl e36 e41) ?_
             intro a157 hE e42 kp
             refine sd 43 hE k (Z02 rfl e42) ?_
             intro a158 hE e43 kp
             apply Z00 44 hE k rfl rfl rfl rfl rfl e43
             case h =>
              exact Z02 rfl (hE.g e3)
             intro a159 hE e44 kp
             replace e43 := kt kp e43
             apply Z00 45 hE k rfl rfl rfl rfl rfl e43
             case h =>
              exact Z02 rfl (hE.g e5)
             intro a160 hE e45 kp
             replace e43 := kt kp e43; replace e44 := kt kp e44
             apply Z00 46 hE k rfl rfl rfl rfl rfl e43
             case h =>
              simp [go_sem, ↓IntWalk.iteOmega, ev e44, ev e45]
              with_reducible rfl
             intro a161 hE e46 kp
             replace e43 := kt kp e43
             apply Z00 47 hE k rfl rfl rfl rfl rfl e43
             case h =>
              simp [go_sem, ↓IntWalk.iteOmega, ev e46, hc _ hw i x hx, ruE]
              with_reducible rfl
             intro a162 hE e47 kp
             replace e43 := kt kp e43
             apply Z00 48 hE k rfl rfl rfl rfl rfl e43
             case h =>
              exact Z05 (Z0k rfl e47 rfl) (decide_eq_true (by omega))
             intro a163 hE e48 kp
             replace e43 := kt kp e43
             refine sd 49 hE k (Z06 rfl e43 e48) ?_
             intro a164 hE e49 kp
             refine wpList_nil ?_
             replace e0 := hE.g e0; replace e3 := hE.g e3; replace e4 := hE.g e4; replace e5 := hE.g e5
             replace k := k.env hE
             clear hE e14
             refine Z01 ?_
             refine Z09 e49 rfl ?_
             refine wp_seq ?_
             refine wp_region_lit ?_
             have hE := Env.refl a164 [2]
             refine sd 2 hE k (Z03 rfl rfl) ?_
             intro a165 hE e2 kp
             refine wpList_nil ?_
             replace k := k.env hE
             clear hE e0 e3 e4 e5 e49
             refine Z01 ?_
             refine wp_ret ?_
             refine Z0h ?_
             refine Z0a ?_
             refine Z0a ?_
             refine Z0h ?_
             refine Z0a ?_
             refine Z0e rfl k e2 ?_
             exact ⟨by rw [hgn x (List.mem_of_getElem? hx) (by unfold badR oddB; rw [decide_eq_true (.inr (.inr k5)), Bool.or_true])]; first | done | rfl, O.below⟩
           · have hbad : badR x = false := by
              unfold badR oddB; rw [decide_eq_false (by omega), Bool.or_false, beq_eq_false_iff_ne]; intro h; rw [h] at k1 k2; simp at k1 k2
             refine wp_seq ?_
             refine wp_seq ?_
             refine wp_region_lit ?_
             have hE := Env.refl a12 [11, 12, 13, 14]
             refine zm 11 hE k e5 ?_
             intro a166 hE e11 kp
             refine zm 12 hE k e3 ?_
             intro a167 hE e12 kp
             replace e11 := kt kp e11
             refine sd 13 hE k (Z0g Tryd.underlying54 rfl e12) ?_
             intro a168 hE e13 kp
             replace e11 := kt kp e11
             refine sd 14 hE k (Z05 (Z0c rfl e11 e13) (decide_eq_true (by omega))) ?_
             intro a169 hE e14 kp
             refine wpList_nil ?_
             replace e0 := hE.g e0; replace e3 := hE.g e3; replace e4 := hE.g e4; replace e5 := hE.g e5
             replace k := k.env hE
             clear hE
             refine Z01 ?_
             refine Z09 e14 rfl ?_
             refine wp_skip ?_
             refine Z01 (wp_seq ?_)
             refine wp_block ?_
             refine wp_seq ?_
             refine wp_region_lit ?_
             have hE := Env.refl a169 [17, 18, 19, 20, 21, 22, 23, 24, 25, 26, 27, 28, 29, 30, 31, 32, 33, 34, 35, 36, 37, 38, 39, 40, 41, 42, 43, 44, 45, 46, 47, 48, 49]
             refine zm 17 hE k e3 ?_
             intro a170 hE e17 kp
             refine zm 18 hE k e5 ?_
             intro a171 hE e18 kp
             replace e17 := kt kp e17
             apply Z08 19 hE k rfl rfl rfl rfl
             case h =>
              simp [go_sem, ↓IntWalk.iteOmega, ev e17, ev e18]
              with_reducible rfl
             intro a172 hE e19 kp
             apply Z08 20 hE k rfl rfl rfl rfl
             case h =>
              simp [go_sem, ↓IntWalk.iteOmega, ev e19, hc _ hw i x hx, ruE]
              with_reducible rfl
             intro a173 hE e20 kp
             refine sd 21 hE k (Z05 (Z0k rfl e20 rfl) (decide_eq_true (by omega))) ?_
             intro a174 hE e21 kp
             refine sd 22 hE k (Z02 rfl e21) ?_
             intro a175 hE e22 kp
             apply Z00 23 hE k rfl rfl rfl rfl rfl e22
             case h =>
              exact Z02 rfl (hE.g e4)
             intro a176 hE e23 kp
             replace e22 := kt kp e22
             apply Z00 24 hE k rfl rfl rfl rfl rfl e22
             case h =>
              exact Z02 rfl (hE.g e5)
             intro a177 hE e24 kp
             replace e22 := kt kp e22; replace e23 := kt kp e23
             apply Z00 25 hE k rfl rfl rfl rfl rfl e22
             case h =>
              simp [go_sem, ↓IntWalk.iteOmega, ev e23, ev e24]
              with_reducible rfl
             intro a178 hE e25 kp
             replace e22 := kt kp e22
             apply Z00 26 hE k rfl rfl rfl rfl rfl e22
             case h =>
              simp [go_sem, ↓IntWalk.iteOmega, ev e25, hc2 _ hw i x hx, szE]
              with_reducible rfl
             intro a179 hE e26 kp
             replace e22 := kt kp e22
             apply Z00 27 hE k rfl rfl rfl rfl rfl e22
             case h =>
              exact Z05 (Z0k rfl e26 rfl) (decide_eq_false (by omega))
             intro a180 hE e27 kp
             replace e22 := kt kp e22
             refine sd 28 hE k (Z07 rfl e22 e27) ?_
             intro a181 hE e28 kp
             refine sd 29 hE k (Z02 rfl e28) ?_
             intro a182 hE e29 kp
             apply Z00 30 hE k rfl rfl rfl rfl rfl e29
             case h =>
              exact Z02 rfl (hE.g e3)
             intro a183 hE e30 kp
             replace e29 := kt kp e29
             apply Z00 31 hE k rfl rfl rfl rfl rfl e29
             case h =>
              exact Z02 rfl (hE.g e5)
             intro a184 hE e31 kp
             replace e29 := kt kp e29; replace e30 := kt kp e30
             apply Z00 32 hE k rfl rfl rfl rfl rfl e29
             case h =>
              simp [go_sem, ↓IntWalk.iteOmega, ev e30, ev e31]
              with_reducible rfl
             intro a185 hE e32 kp
             replace e29 := kt kp e29
             apply Z00 33 hE k rfl rfl rfl rfl rfl e29
             case h =>
              simp [go_sem, ↓IntWalk.iteOmega, ev e32, hc _ hw i x hx, ruE]
              with_reducible rfl
             intro a186 hE e33 kp
             replace e29 := kt kp e29
             apply Z00 34 hE k rfl rfl rfl rfl rfl e29
             case h =>
              exact Z05 (Z0c rfl e33 rfl) (decide_eq_false (by omega))
             intro a187 hE e34 kp
             replace e29 := kt kp e29
             refine sd 35 hE k (Z06 rfl e29 e34) ?_
             intro a188 hE e35 kp
             refine sd 36 hE k (Z02 rfl e35) ?_
             intro a189 hE e36 kp
             apply Z00 37 hE k rfl rfl rfl rfl rfl e36
             case h =>
              exact Z02 rfl (hE.g e3)
             intro a190 hE e37 kp
             replace e36 := kt kp e36
             apply Z00 38 hE k rfl rfl rfl rfl rfl e36
             case h =>
              exact Z02 rfl (hE.g e5)
             intro a191 hE e38 kp
             replace e36 := kt kp e36; replace e37 := kt kp e37
             apply Z00 39 hE k rfl rfl rfl rfl rfl e36
             case h =>
              simp [go_sem, ↓IntWalk.iteOmega, ev e37, ev e38]
              with_reducible rfl
             intro a192 hE e39 kp
             replace e36 := kt kp e36
             apply Z00 40 hE k rfl rfl rfl rfl rfl e36
             case h =>
              simp [go_sem, ↓IntWalk.iteOmega, ev e39, hc _ hw i x hx, ruE]
              with_reducible rfl
             intro a193 hE e40 kp
             replace e36 := kt kp e36
             apply Z00 41 hE k rfl rfl rfl rfl rfl e36
             case h =>
              exact Z05 (Z0k rfl e40 rfl) (decide_eq_false (by omega))
             intro a194 hE e41 kp
             replace e36 := kt kp e36
             refine sd 42 hE k (Z06 rfl e36 e41) ?_
             intro a195 hE e42 kp
             refine sd 43 hE k (Z02 rfl e42) ?_
             intro a196 hE e43 kp
             apply Z00 44 hE k rfl rfl rfl rfl rfl e43
             case h =>
              exact Z02 rfl (hE.g e3)
             intro a197 hE e44 kp
             replace e43 := kt kp e43
             apply Z00 45 hE k rfl rfl rfl rfl rfl e43
             case h =>
              exact Z02 rfl (hE.g e5)
             intro a198 hE e45 kp
             replace e43 := kt kp e43; replace e44 := kt kp e44
             apply Z00 46 hE k rfl rfl rfl rfl rfl e43
             case h =>
              simp [go_sem, ↓IntWalk.iteOmega, ev e44, ev e45]
              with_reducible rfl
             intro a199 hE e46 kp
             replace e43 := kt kp e43
             apply Z00 47 hE k rfl rfl rfl rfl rfl e43
             case h =>
              simp [go_sem, ↓IntWalk.iteOmega, ev e46, hc _ hw i x hx, ruE]
              with_reducible rfl
             intro a200 hE e47 kp
             replace e43 := kt kp e43
             apply Z00 48 hE k rfl rfl rfl rfl rfl e43
             case h =>
              exact Z05 (Z0k rfl e47 rfl) (decide_eq_false (by omega))
             intro a201 hE e48 kp
             replace e43 := kt kp e43
             refine sd 49 hE k (Z06 rfl e43 e48) ?_
             intro a202 hE e49 kp
             refine wpList_nil ?_
             replace e0 := hE.g e0; replace e3 := hE.g e3; replace e4 := hE.g e4; replace e5 := hE.g e5
             replace k := k.env hE
             clear hE e14
             refine Z01 ?_
             refine Z0b e49 rfl ?_
             refine wp_skip ?_
             refine Z0i ?_
             refine Z01 ?_
             refine wp_region_lit ?_
             have hE := Env.refl a202 [15, 16, 5]
             refine sd 15 hE k (Z02 rfl e5) ?_
             intro a203 hE e15 kp
             replace e5 := kt kp e5
             refine sd 16 hE k (Z0z rfl e15 rfl (by omega)) ?_
             intro a204 hE e16 kp
             replace e5 := kt kp e5
             refine sd 5 hE k (Z03 rfl e16) ?_
             intro a205 hE e5 kp
             refine wpList_nil ?_
             replace e0 := hE.g e0; replace e3 := hE.g e3; replace e4 := hE.g e4
             replace k := k.env hE
             clear hE e49
             refine Z01 ?_
             refine ⟨⟨k, e0, e3, e4, i + 1, e5, by omega, fun u hu => ?_, hw, O⟩, ?_⟩
             · rw [List.take_add_one, hx] at hu; rcases List.mem_append.1 hu with hu | hu
               · exact hall u hu
               · simp at hu; rw [hu]; exact hbad
             · rw [e5, mi]; simp only [intOf]; omega
   · skip
     by_cases k3 : x.1 < 32
     · skip
       refine wp_seq ?_
       refine wp_seq ?_
       refine wp_region_lit ?_
       have hE := Env.refl a12 [11, 12, 13, 14]
       refine zm 11 hE k e5 ?_
       intro a206 hE e11 kp
       refine zm 12 hE k e3 ?_
       intro a207 hE e12 kp
       replace e11 := kt kp e11
       refine sd 13 hE k (Z0g Tryd.underlying54 rfl e12) ?_
       intro a208 hE e13 kp
       replace e11 := kt kp e11
       refine sd 14 hE k (Z05 (Z0c rfl e11 e13) (decide_eq_true (by omega))) ?_
       intro a209 hE e14 kp
       refine wpList_nil ?_
       replace e0 := hE.g e0; replace e3 := hE.g e3; replace e4 := hE.g e4; replace e5 := hE.g e5
       replace k := k.env hE
       clear hE
       refine Z01 ?_
       refine Z09 e14 rfl ?_
       refine wp_skip ?_
       refine Z01 (wp_seq ?_)
       refine wp_block ?_
       refine wp_seq ?_
       refine wp_region_lit ?_
       have hE := Env.refl a209 [17, 18, 19, 20, 21, 22, 23, 24, 25, 26, 27, 28, 29, 30, 31, 32, 33, 34, 35, 36, 37, 38, 39, 40, 41, 42, 43, 44, 45, 46, 47, 48, 49]
       refine zm 17 hE k e3 ?_
       intro a210 hE e17 kp
       refine zm 18 hE k e5 ?_
       intro a211 hE e18 kp
       replace e17 := kt kp e17
       apply Z08 19 hE k rfl rfl rfl rfl
       case h =>
        simp [go_sem, ↓IntWalk.iteOmega, ev e17, ev e18]
        with_reducible rfl
       intro a212 hE e19 kp
       apply Z08 20 hE k rfl rfl rfl rfl
       case h =>
        simp [go_sem, ↓IntWalk.iteOmega, ev e19, hc _ hw i x hx, ruE]
        with_reducible rfl
       intro a213 hE e20 kp
       refine sd 21 hE k (Z05 (Z0k rfl e20 rfl) (decide_eq_false (by omega))) ?_
       intro a214 hE e21 kp
       refine sd 22 hE k (Z02 rfl e21) ?_
       intro a215 hE e22 kp
       refine Z04 23 hE k rfl (by rfl) (by rfl) rfl rfl (.inl e22) ?_
       intro a216 hE e23 kp
       replace e22 := kt kp e22
       refine Z04 24 hE k rfl (by rfl) (by rfl) rfl rfl (.inl e22) ?_
       intro a217 hE e24 kp
       replace e22 := kt kp e22; replace e23 := kt kp e23
       refine Z04 25 hE k rfl (by rfl) (by rfl) rfl rfl (.inl e22) ?_
       intro a218 hE e25 kp
       replace e22 := kt kp e22
       refine Z04 26 hE k rfl (by rfl) (by rfl) rfl rfl (.inl e22) ?_
       intro a219 hE e26 kp
       replace e22 := kt kp e22
       refine Z04 27 hE k rfl (by rfl) (by rfl) rfl rfl (.inl e22) ?_
       intro a220 hE e27 kp
       replace e22 := kt kp e22
       refine sd 28 hE k (Z06 rfl e22 rfl) ?_
       intro a221 hE e28 kp
       refine sd 29 hE k (Z02 rfl e28) ?_
       intro a222 hE e29 kp
       apply Z00 30 hE k rfl rfl rfl rfl rfl e29
       case h =>
        exact Z02 rfl (hE.g e3)
       intro a223 hE e30 kp
       replace e29 := kt kp e29
       apply Z00 31 hE k rfl rfl rfl rfl rfl e29
       case h =>
        exact Z02 rfl (hE.g e5)
       intro a224 hE e31 kp
       replace e29 := kt kp e29; replace e30 := kt kp e30
       apply Z00 32 hE k rfl rfl rfl rfl rfl e29
       case h =>
        simp [go_sem, ↓IntWalk.iteOmega, ev e30, ev e31]
        with_reducible rfl
       intro a225 hE e32 kp
       replace e29 := kt kp e29
       apply Z00 33 hE k rfl rfl rfl rfl rfl e29
       case h =>
        simp [go_sem, ↓IntWalk.iteOmega, ev e32, hc _ hw i x hx, ruE]
        with_reducible rfl
       intro a226 hE e33 kp
       replace e29 := kt kp e29
       apply Z00 34 hE k rfl rfl rfl rfl rfl e29
       case h =>
        exact Z05 (Z0c rfl e33 rfl) (decide_eq_true (by omega))
       intro a227 hE e34 kp
       replace e29 := kt kp e29
       refine sd 35 hE k (Z06 rfl e29 e34) ?_
       intro a228 hE e35 kp
       refine sd 36 hE k (Z02 rfl e35) ?_
       intro a229 hE e36 kp
       refine Z04 37 hE k rfl (by rfl) (by rfl) rfl rfl (.inl e36) ?_
       intro a230 hE e37 kp
       replace e36 := kt kp e36
       refine Z04 38 hE k rfl (by rfl) (by rfl) rfl rfl (.inl e36) ?_
       intro a231 hE e38 kp
       replace e36 := kt kp e36; replace e37 := kt kp e37
       refine Z04 39 hE k rfl (by rfl) (by rfl) rfl rfl (.inl e36) ?_
       intro a232 hE e39 kp
       replace e36 := kt kp e36
       refine Z04 40 hE k rfl (by rfl) (by rfl) rfl rfl (.inl e36) ?_
       intro a233 hE e40 kp
       replace e36 := kt kp e36
       refine Z04 41 hE k rfl (by rfl) (by rfl) rfl rfl (.inl e36) ?_
       intro a234 hE e41 kp
       replace e36 := kt kp e36
       refine sd 42 hE k (Z07 rfl e36 rfl) ?_
       intro a235 hE e42 kp
       refine sd 43 hE k (Z02 rfl e42) ?_
       intro a236 hE e43 kp
       refine Z04 44 hE k rfl (by rfl) (by rfl) rfl rfl (.inl e43) ?_
       intro a237 hE e44 kp
       replace e43 := kt kp e43
       refine Z04 45 hE k rfl (by rfl) (by rfl) rfl rfl (.inl e43) ?_
       intro a238 hE e45 kp
       replace e43 := kt kp e43; replace e44 := kt kp e44
       refine Z04 46 hE k rfl (by rfl) (by rfl) rfl rfl (.inl e43) ?_
       intro a239 hE e46 kp
       replace e43 := kt kp e43
       refine Z04 47 hE k rfl (by rfl) (by rfl) rfl rfl (.inl e43) ?_
       intro a240 hE e47 kp
       replace e43 := kt kp e43
       refine Z04 48 hE k rfl (by rfl) (by rfl) rfl rfl (.inl e43) ?_
       intro a241 hE e48 kp
       replace e43 := kt kp e43
       refine sd 49 hE k (Z07 rfl e43 rfl) ?_
       intro a242 hE e49 kp
       refine wpList_nil ?_
       replace e0 := hE.g e0; replace e3 := hE.g e3; replace e4 := hE.g e4; replace e5 := hE.g e5
       replace k := k.env hE
       clear hE e14
       refine Z01 ?_
       refine Z09 e49 rfl ?_
       refine wp_seq ?_
       refine wp_region_lit ?_
       have hE := Env.refl a242 [2]
       refine sd 2 hE k (Z03 rfl rfl) ?_
       intro a243 hE e2 kp
       refine wpList_nil ?_
       replace k := k.env hE
       clear hE e0 e3 e4 e5 e49
       refine Z01 ?_
       refine wp_ret ?_
       refine Z0h ?_
       refine Z0a ?_
       refine Z0a ?_
       refine Z0h ?_
       refine Z0a ?_
       refine Z0e rfl k e2 ?_
       exact ⟨by rw [hgn x (List.mem_of_getElem? hx) (by unfold badR oddB; rw [decide_eq_true (.inl k3), Bool.or_true])]; first | done | rfl, O.below⟩
     · by_cases k4 : x.1 = 127
       · skip
         refine wp_seq ?_
         refine wp_seq ?_
         refine wp_region_lit ?_
         have hE := Env.refl a12 [11, 12, 13, 14]
         refine zm 11 hE k e5 ?_
         intro a244 hE e11 kp
         refine zm 12 hE k e3 ?_
         intro a245 hE e12 kp
         replace e11 := kt kp e11
         refine sd 13 hE k (Z0g Tryd.underlying54 rfl e12) ?_
         intro a246 hE e13 kp
         replace e11 := kt kp e11
         refine sd 14 hE k (Z05 (Z0c rfl e11 e13) (decide_eq_true (by omega))) ?_
         intro a247 hE e14 kp
         refine wpList_nil ?_
         replace e0 := hE.g e0; replace e3 := hE.g e3; replace e4 := hE.g e4; replace e5 := hE.g e5
         replace k := k.env hE
         clear hE
         refine Z01 ?_
         refine Z09 e14 rfl ?_
         refine wp_skip ?_
         refine Z01 (wp_seq ?_)
         refine wp_block ?_
         refine wp_seq ?_
         refine wp_region_lit ?_
         have hE := Env.refl a247 [17, 18, 19, 20, 21, 22, 23, 24, 25, 26, 27, 28, 29, 30, 31, 32, 33, 34, 35, 36, 37, 38, 39, 40, 41, 42, 43, 44, 45, 46, 47, 48, 49]
         refine zm 17 hE k e3 ?_
         intro a248 hE e17 kp
         refine zm 18 hE k e5 ?_
         intro a249 hE e18 kp
         replace e17 := kt kp e17
         apply Z08 19 hE k rfl rfl rfl rfl
         case h =>
          simp [go_sem, ↓IntWalk.iteOmega, ev e17, ev e18]
          with_reducible rfl
         intro a250 hE e19 kp
         apply Z08 20 hE k rfl rfl rfl rfl
         case h =>
          simp [go_sem, ↓IntWalk.iteOmega, ev e19, hc _ hw i x hx, ruE]
          with_reducible rfl
         intro a251 hE e20 kp
         refine sd 21 hE k (Z05 (Z0k rfl e20 rfl) (decide_eq_false (by omega))) ?_
         intro a252 hE e21 kp
         refine sd 22 hE k (Z02 rfl e21) ?_
         intro a253 hE e22 kp
         refine Z04 23 hE k rfl (by rfl) (by rfl) rfl rfl (.inl e22) ?_
         intro a254 hE e23 kp
         replace e22 := kt kp e22
         refine Z04 24 hE k rfl (by rfl) (by rfl) rfl rfl (.inl e22) ?_
         intro a255 hE e24 kp
         replace e22 := kt kp e22; replace e23 := kt kp e23
         refine Z04 25 hE k rfl (by rfl) (by rfl) rfl rfl (.inl e22) ?_
         intro a256 hE e25 kp
         replace e22 := kt kp e22
         refine Z04 26 hE k rfl (by rfl) (by rfl) rfl rfl (.inl e22) ?_
         intro a257 hE e26 kp
         replace e22 := kt kp e22
         refine Z04 27 hE k rfl (by rfl) (by rfl) rfl rfl (.inl e22) ?_
         intro a258 hE e27 kp
         replace e22 := kt kp e22
         refine sd 28 hE k (Z06 rfl e22 rfl) ?_
         intro a259 hE e28 kp
         refine sd 29 hE k (Z02 rfl e28) ?_
         intro a260 hE e29 kp
         apply Z00 30 hE k rfl rfl rfl rfl rfl e29
         case h =>
          exact Z02 rfl (hE.g e3)
         intro a261 hE e30 kp
         replace e29 := kt kp e29
         apply Z00 31 hE k rfl rfl rfl rfl rfl e29
         case h =>
          exact Z02 rfl (hE.g e5)
         intro a262 hE e31 kp
         replace e29 := kt kp e29; replace e30 := kt kp e30
         apply Z00 32 hE k rfl rfl rfl rfl rfl e29
         case h =>
          simp [go_sem, ↓IntWalk.iteOmega, ev e30, ev e31]
          with_reducible rfl
         intro a263 hE e32 kp
         replace e29 := kt kp e29
         apply Z00 33 hE k rfl rfl rfl rfl rfl e29
         case h =>
          simp [go_sem, ↓IntWalk.iteOmega, ev e32, hc _ hw i x hx, ruE]
          with_reducible rfl
         intro a264 hE e33 kp
         replace e29 := kt kp e29
         apply Z00 34 hE k rfl rfl rfl rfl rfl e29
         case h =>
          exact Z05 (Z0c rfl e33 rfl) (decide_eq_false (by omega))
         intro a265 hE e34 kp
         replace e29 := kt kp e29
         refine sd 35 hE k (Z06 rfl e29 e34) ?_
         intro a266 hE e35 kp
         refine sd 36 hE k (Z02 rfl e35) ?_
         intro a267 hE e36 kp
         apply Z00 37 hE k rfl rfl rfl rfl rfl e36
         case h =>
          exact Z02 rfl (hE.g e3)
         intro a268 hE e37 kp
         replace e36 := kt kp e36
         apply Z00 38 hE k rfl rfl rfl rfl rfl e36
         case h =>
          exact Z02 rfl (hE.g e5)
         intro a269 hE e38 kp
         replace e36 := kt kp e36; replace e37 := kt kp e37
         apply Z00 39 hE k rfl rfl rfl rfl rfl e36
         case h =>
          simp [go_sem, ↓IntWalk.iteOmega, ev e37, ev e38]
          with_reducible rfl
         intro a270 hE e39 kp
         replace e36 := kt kp e36
         apply Z00 40 hE k rfl rfl rfl rfl rfl e36
         case h =>
          simp [go_sem, ↓IntWalk.iteOmega, ev e39, hc _ hw i x hx, ruE]
          with_reducible rfl
         intro a271 hE e40 kp
         replace e36 := kt kp e36
         apply Z00 41 hE k rfl rfl rfl rfl rfl e36
         case h =>
          exact Z05 (Z0k rfl e40 rfl) (decide_eq_true (by omega))
         intro a272 hE e41 kp
         replace e36 := kt kp e36
         refine sd 42 hE k (Z06 rfl e36 e41) ?_
         intro a273 hE e42 kp
         refine sd 43 hE k (Z02 rfl e42) ?_
         intro a274 hE e43 kp
         refine Z04 44 hE k rfl (by rfl) (by rfl) rfl rfl (.inl e43) ?_
         intro a275 hE e44 kp
         replace e43 := kt kp e43
         refine Z04 45 hE k rfl (by rfl) (by rfl) rfl rfl (.inl e43) ?_
         intro a276 hE e45 kp
         replace e43 := kt kp e43; replace e44 := kt kp e44
         refine Z04 46 hE k rfl (by rfl) (by rfl) rfl rfl (.inl e43) ?_
         intro a277 hE e46 kp
         replace e43 := kt kp e43
         refine Z04 47 hE k rfl (by rfl) (by rfl) rfl rfl (.inl e43) ?_
         intro a278 hE e47 kp
         replace e43 := kt kp e43
         refine Z04 48 hE k rfl (by rfl) (by rfl) rfl rfl (.inl e43) ?_
         intro a279 hE e48 kp
         replace e43 := kt kp e43
         refine sd 49 hE k (Z07 rfl e43 rfl) ?_
         intro a280 hE e49 kp
         refine wpList_nil ?_
         replace e0 := hE.g e0; replace e3 := hE.g e3; replace e4 := hE.g e4; replace e5 := hE.g e5
         replace k := k.env hE
         clear hE e14
         refine Z01 ?_
         refine Z09 e49 rfl ?_
         refine wp_seq ?_
         refine wp_region_lit ?_
         have hE := Env.refl a280 [2]
         refine sd 2 hE k (Z03 rfl rfl) ?_
         intro a281 hE e2 kp
         refine wpList_nil ?_
         replace k := k.env hE
         clear hE e0 e3 e4 e5 e49
         refine Z01 ?_
         refine wp_ret ?_
         refine Z0h ?_
         refine Z0a ?_
         refine Z0a ?_
         refine Z0h ?_
         refine Z0a ?_
         refine Z0e rfl k e2 ?_
         exact ⟨by rw [hgn x (List.mem_of_getElem? hx) (by unfold badR oddB; rw [decide_eq_true (.inr (.inl k4)), Bool.or_true])]; first | done | rfl, O.below⟩
       · by_cases k5 : x.1 = 9474
         · skip
           refine wp_seq ?_
           refine wp_seq ?_
           refine wp_region_lit ?_
           have hE := Env.refl a12 [11, 12, 13, 14]
           refine zm 11 hE k e5 ?_
           intro a282 hE e11 kp
           refine zm 12 hE k e3 ?_
           intro a283 hE e12 kp
           replace e11 := kt kp e11
           refine sd 13 hE k (Z0g Tryd.underlying54 rfl e12) ?_
           intro a284 hE e13 kp
           replace e11 := kt kp e11
           refine sd 14 hE k (Z05 (Z0c rfl e11 e13) (decide_eq_true (by omega))) ?_
           intro a285 hE e14 kp
           refine wpList_nil ?_
           replace e0 := hE.g e0; replace e3 := hE.g e3; replace e4 := hE.g e4; replace e5 := hE.g e5
           replace k := k.env hE
           clear hE
           refine Z01 ?_
           refine Z09 e14 rfl ?_
           refine wp_skip ?_
           refine Z01 (wp_seq ?_)
           refine wp_block ?_
           refine wp_seq ?_
           refine wp_region_lit ?_
           have hE := Env.refl a285 [17, 18, 19, 20, 21, 22, 23, 24, 25, 26, 27, 28, 29, 30, 31, 32, 33, 34, 35, 36, 37, 38, 39, 40, 41, 42, 43, 44, 45, 46, 47, 48, 49]
           refine zm 17 hE k e3 ?_
           intro a286 hE e17 kp
           refine zm 18 hE k e5 ?_
           intro a287 hE e18 kp
           replace e17 := kt kp e17
           apply Z08 19 hE k rfl rfl rfl rfl
           case h =>
            simp [go_sem, ↓IntWalk.iteOmega, ev e17, ev e18]
            with_reducible rfl
           intro a288 hE e19 kp
           apply Z08 20 hE k rfl rfl rfl rfl
           case h =>
            simp [go_sem, ↓IntWalk.iteOmega, ev e19, hc _ hw i x hx, ruE]
            with_reducible rfl
           intro a289 hE e20 kp
           refine sd 21 hE k (Z05 (Z0k rfl e20 rfl) (decide_eq_false (by omega))) ?_
           intro a290 hE e21 kp
           refine sd 22 hE k (Z02 rfl e21) ?_
           intro a291 hE e22 kp
           refine Z04 23 hE k rfl (by rfl) (by rfl) rfl rfl (.inl e22) ?_
           intro a292 hE e23 kp
           replace e22 := kt kp e22
           refine Z04 24 hE k rfl (by rfl) (by rfl) rfl rfl (.inl e22) ?_
           intro a293 hE e24 kp
           replace e22 := kt kp e22; replace e23 := kt kp e23
           refine Z04 25 hE k rfl (by rfl) (by rfl) rfl rfl (.inl e22) ?_
           intro a294 hE e25 kp
           replace e22 := kt kp e22
           refine Z04 26 hE k rfl (by rfl) (by rfl) rfl rfl (.inl e22) ?_
           intro a295 hE e26 kp
           replace e22 := kt kp e22
           refine Z04 27 hE k rfl (by rfl) (by rfl) rfl rfl (.inl e22) ?_
           intro a296 hE e27 kp
           replace e22 := kt kp e22
           refine sd 28 hE k (Z06 rfl e22 rfl) ?_
           intro a297 hE e28 kp
           refine sd 29 hE k (Z02 rfl e28) ?_
           intro a298 hE e29 kp
           apply Z00 30 hE k rfl rfl rfl rfl rfl e29
           case h =>
            exact Z02 rfl (hE.g e3)
           intro a299 hE e30 kp
           replace e29 := kt kp e29
           apply Z00 31 hE k rfl rfl rfl rfl rfl e29
           case h =>
            exact Z02 rfl (hE.g e5)
           intro a300 hE e31 kp
           replace e29 := kt kp e29; replace e30 := kt kp e30
           apply Z00 32 hE k rfl rfl rfl rfl rfl e29
           case h =>
            simp [go_sem, ↓IntWalk.iteOmega, ev e30, ev e31]
            with_reducible rfl
           intro a301 hE e32 kp
           replace e29 := kt kp e29
           apply Z00 33 hE k rfl rfl rfl rfl rfl e29
           case h =>
            simp [go_sem, ↓IntWalk.iteOmega, ev e32, hc _ hw i x hx, ruE]
            with_reducible rfl
           intro a302 hE e33 kp
           replace e29 := kt kp e29
           apply Z00 34 hE k rfl rfl rfl rfl rfl e29
           case h =>
            exact Z05 (Z0c rfl e33 rfl) (decide_eq_false (by omega))
           intro a303 hE e34 kp
           replace e29 := kt kp e29
           refine sd 35 hE k (Z06 rfl e29 e34) ?_
           intro a304 hE e35 kp
           refine sd 36 hE k (Z02 rfl e35) ?_
           intro a305 hE e36 kp
           apply Z00 37 hE k rfl rfl rfl rfl rfl e36
           case h =>
            exact Z02 rfl (hE.g e3)
           intro a306 hE e37 kp
           replace e36 := kt kp e36
           apply Z00 38 hE k rfl rfl rfl rfl rfl e36
           case h =>
            exact Z02 rfl (hE.g e5)
           intro a307 hE e38 kp
           replace e36 := kt kp e36; replace e37 := kt kp e37
           apply Z00 39 hE k rfl rfl rfl rfl rfl e36
           case h =>
            simp [go_sem, ↓IntWalk.iteOmega, ev e37, ev e38]
            with_reducible rfl
           intro a308 hE e39 kp
           replace e36 := kt kp e36
           apply Z00 40 hE k rfl rfl rfl rfl rfl e36
           case h =>
            simp [go_sem, ↓IntWalk.iteOmega, ev e39, hc _ hw i x hx, ruE]
            with_reducible rfl
           intro a309 hE e40 kp
           replace e36 := kt kp e36
           apply Z00 41 hE k rfl rfl rfl rfl rfl e36
           case h =>
            exact Z05 (Z0k rfl e40 rfl) (decide_eq_false (by omega))
           intro a310 hE e41 kp
           replace e36 := kt kp e36
           refine sd 42 hE k (Z06 rfl e36 e41) ?_
           intro a311 hE e42 kp
           refine sd 43 hE k (Z02 rfl e42) ?_
           intro a312 hE e43 kp
           apply Z00 44 hE k rfl rfl rfl rfl rfl e43
           case h =>
            exact Z02 rfl (hE.g e3)
           intro a313 hE e44 kp
           replace e43 := kt kp e43
           apply Z00 45 hE k rfl rfl rfl rfl rfl e43
           case h =>
            exact Z02 rfl (hE.g e5)
           intro a314 hE e45 kp
           replace e43 := kt kp e43; replace e44 := kt kp e44
           apply Z00 46 hE k rfl rfl rfl rfl rfl e43
           case h =>
            simp [go_sem, ↓IntWalk.iteOmega, ev e44, ev e45]
            with_reducible rfl
           intro a315 hE e46 kp
           replace e43 := kt kp e43
           apply Z00 47 hE k rfl rfl rfl rfl rfl e43
           case h =>
            simp [go_sem, ↓IntWalk.iteOmega, ev e46, hc _ hw i x hx, ruE]
            with_reducible rfl
           intro a316 hE e47 kp
           replace e43 := kt kp e43
           apply Z00 48 hE k rfl rfl rfl rfl rfl e43
           case h =>
            exact Z05 (Z0k rfl e47 rfl) (decide_eq_true (by omega))
           intro a317 hE e48 kp
           replace e43 := kt kp e43
           refine sd 49 hE k (Z06 rfl e43 e48) ?_
           intro a318 hE e49 kp
           refine wpList_nil ?_
           replace e0 := hE.g e0; replace e3 := hE.g e3; replace e4 := hE.g e4; replace e5 := hE.g e5
           replace k := k.env hE
           clear hE e14
           refine Z01 ?_
           refine Z09 e49 rfl ?_
           refine wp_seq ?_
           refine wp_region_lit ?_
           have hE := Env.refl a318 [2]
           refine sd 2 hE k (Z03 rfl rfl) ?_
           intro a319 hE e2 kp
           refine wpList_nil ?_
           replace k := k.env hE
           clear hE e0 e3 e4 e5 e49
           refine Z01 ?_
           refine wp_ret ?_
           refine Z0h ?_
           refine Z0a ?_
           refine Z0a ?_
           refine Z0h ?_
           refine Z0a ?_
           refine Z0e rfl k e2 ?_
           exact ⟨by rw [hgn x (List.mem_of_getElem? hx) (by unfold badR oddB; rw [decide_eq_true (.inr (.inr k5)), Bool.or_true])]; first | done | rfl, O.below⟩
         · have hbad : badR x = false := by
            unfold badR oddB; rw [decide_eq_false (by omega), Bool.or_false, beq_eq_false_iff_ne]; intro h; rw [h] at k1; simp at k1
           refine wp_seq ?_
           refine wp_seq ?_
           refine wp_region_lit ?_
           have hE := Env.refl a12 [11, 12, 13, 14]
           refine zm 11 hE k e5 ?_
           intro a320 hE e11 kp
           refine zm 12 hE k e3 ?_
           intro a321 hE e12 kp
           replace e11 := kt kp e11
           refine sd 13 hE k (Z0g Tryd.underlying54 rfl e12) ?_
           intro a322 hE e13 kp
           replace e11 := kt kp e11
           refine sd 14 hE k (Z05 (Z0c rfl e11 e13) (decide_eq_true (by omega))) ?_
           intro a323 hE e14 kp
           refine wpList_nil ?_
           replace e0 := hE.g e0; replace e3 := hE.g e3; replace e4 := hE.g e4; replace e5 := hE.g e5
           replace k := k.env hE
           clear hE
           refine Z01 ?_
           refine Z09 e14 rfl ?_
           refine wp_skip ?_
           refine Z01 (wp_seq ?_)
           refine wp_block ?_
           refine wp_seq ?_
           refine wp_region_lit ?_
           have hE := Env.refl a323 [17, 18, 19, 20, 21, 22, 23, 24, 25, 26, 27, 28, 29, 30, 31, 32, 33, 34, 35, 36, 37, 38, 39, 40, 41, 42, 43, 44, 45, 46, 47, 48, 49]
           refine zm 17 hE k e3 ?_
           intro a324 hE e17 kp
           refine zm 18 hE k e5 ?_
           intro a325 hE e18 kp
           replace e17 := kt kp e17
           apply Z08 19 hE k rfl rfl rfl rfl
           case h =>
            simp [go_sem, ↓IntWalk.iteOmega, ev e17, ev e18]
            with_reducible rfl
           intro a326 hE e19 kp
           apply Z08 20 hE k rfl rfl rfl rfl
           case h =>
            simp [go_sem, ↓IntWalk.iteOmega, ev e19, hc _ hw i x hx, ruE]
            with_reducible rfl
           intro a327 hE e20 kp
           refine sd 21 hE k (Z05 (Z0k rfl e20 rfl) (decide_eq_false (by omega))) ?_
           intro a328 hE e21 kp
           refine sd 22 hE k (Z02 rfl e21) ?_
           intro a329 hE e22 kp
           refine Z04 23 hE k rfl (by rfl) (by rfl) rfl rfl (.inl e22) ?_
           intro a330 hE e23 kp
           replace e22 := kt kp e22
           refine Z04 24 hE k rfl (by rfl) (by rfl) rfl rfl (.inl e22) ?_
           intro a331 hE e24 kp
           replace e22 := kt kp e22; replace e23 := kt kp e23
           refine Z04 25 hE k rfl (by rfl) (by rfl) rfl rfl (.inl e22) ?_
           intro a332 hE e25 kp
           replace e22 := kt kp e22
           refine Z04 26 hE k rfl (by rfl) (by rfl) rfl rfl (.inl e22) ?_
           intro a333 hE e26 kp
           replace e22 := kt kp e22
           refine Z04 27 hE k rfl (by rfl) (by rfl) rfl rfl (.inl e22) ?_
           intro a334 hE e27 kp
           replace e22 := kt kp e22
           refine sd 28 hE k (Z06 rfl e22 rfl) ?_
           intro a335 hE e28 kp
           refine sd 29 hE k (Z02 rfl e28) ?_
           intro a336 hE e29 kp
           apply Z00 30 hE k rfl rfl rfl rfl rfl e29
           case h =>
            exact Z02 rfl (hE.g e3)
           intro a337 hE e30 kp
           replace e29 := kt kp e29
           apply Z00 31 hE k rfl rfl rfl rfl rfl e29
           case h =>
            exact Z02 rfl (hE.g e5)
           intro a338 hE e31 kp
           replace e29 := kt kp e29; replace e30 := kt kp e30
           apply Z00 32 hE k rfl rfl rfl rfl rfl e29
           case h =>
            simp [go_sem, ↓IntWalk.iteOmega, ev e30, ev e31]
            with_reducible rfl
           intro a339 hE e32 kp
           replace e29 := kt kp e29
           apply Z00 33 hE k rfl rfl rfl rfl rfl e29
           case h =>
            simp [go_sem, ↓IntWalk.iteOmega, ev e32, hc _ hw i x hx, ruE]
            with_reducible rfl
           intro a340 hE e33 kp
           replace e29 := kt kp e29
           apply Z00 34 hE k rfl rfl rfl rfl rfl e29
           case h =>
            exact Z05 (Z0c rfl e33 rfl) (decide_eq_false (by omega))
           intro a341 hE e34 kp
           replace e29 := kt kp e29
           refine sd 35 hE k (Z06 rfl e29 e34) ?_
           intro a342 hE e35 kp
           refine sd 36 hE k (Z02 rfl e35) ?_
           intro a343 hE e36 kp
           apply Z00 37 hE k rfl rfl rfl rfl rfl e36
           case h =>
            exact Z02 rfl (hE.g e3)
           intro a344 hE e37 kp
           replace e36 := kt kp e36
           apply Z00 38 hE k rfl rfl rfl rfl rfl e36
           case h =>
            exact Z02 rfl (hE.g e5)
           intro a345 hE e38 kp
           replace e36 := kt kp e36; replace e37 := kt kp e37
           apply Z00 39 hE k rfl rfl rfl rfl rfl e36
           case h =>
            simp [go_sem, ↓IntWalk.iteOmega, ev e37, ev e38]
            with_reducible rfl
           intro a346 hE e39 kp
           replace e36 := kt kp e36
           apply Z00 40 hE k rfl rfl rfl rfl rfl e36
           case h =>
            simp [go_sem, ↓IntWalk.iteOmega, ev e39, hc _ hw i x hx, ruE]
            with_reducible rfl
           intro a347 hE e40 kp
           replace e36 := kt kp e36
           apply Z00 41 hE k rfl rfl rfl rfl rfl e36
           case h =>
            exact Z05 (Z0k rfl e40 rfl) (decide_eq_false (by omega))
           intro a348 hE e41 kp
           replace e36 := kt kp e36
           refine sd 42 hE k (Z06 rfl e36 e41) ?_
           intro a349 hE e42 kp
           refine sd 43 hE k (Z02 rfl e42) ?_
           intro a350 hE e43 kp
           apply Z00 44 hE k rfl rfl rfl rfl rfl e43
           case h =>
            exact Z02 rfl (hE.g e3)
           intro a351 hE e44 kp
           replace e43 := kt kp e43
           apply Z00 45 hE k rfl rfl rfl rfl rfl e43
           case h =>
            exact Z02 rfl (hE.g e5)
           intro a352 hE e45 kp
           replace e43 := kt kp e43; replace e44 := kt kp e44
           apply Z00 46 hE k rfl rfl rfl rfl rfl e43
           case h =>
            simp [go_sem, ↓IntWalk.iteOmega, ev e44, ev e45]
            with_reducible rfl
           intro a353 hE e46 kp
           replace e43 := kt kp e43
           apply Z00 47 hE k rfl rfl rfl rfl rfl e43
           case h =>
            simp [go_sem, ↓IntWalk.iteOmega, ev e46, hc _ hw i x hx, ruE]
            with_reducible rfl
           intro a354 hE e47 kp
           replace e43 := kt kp e43
           apply Z00 48 hE k rfl rfl rfl rfl rfl e43
           case h =>
            exact Z05 (Z0k rfl e47 rfl) (decide_eq_false (by omega))
           intro a355 hE e48 kp
           replace e43 := kt kp e43
           refine sd 49 hE k (Z06 rfl e43 e48) ?_
           intro a356 hE e49 kp
           refine wpList_nil ?_
           replace e0 := hE.g e0; replace e3 := hE.g e3; replace e4 := hE.g e4; replace e5 := hE.g e5
           replace k := k.env hE
           clear hE e14
           refine Z01 ?_
           refine Z0b e49 rfl ?_
           refine wp_skip ?_
           refine Z0i ?_
           refine Z01 ?_
           refine wp_region_lit ?_
           have hE := Env.refl a356 [15, 16, 5]
           refine sd 15 hE k (Z02 rfl e5) ?_
           intro a357 hE e15 kp
           replace e5 := kt kp e5
           refine sd 16 hE k (Z0z rfl e15 rfl (by omega)) ?_
           intro a358 hE e16 kp
           replace e5 := kt kp e5
           refine sd 5 hE k (Z03 rfl e16) ?_
           intro a359 hE e5 kp
           refine wpList_nil ?_
           replace e0 := hE.g e0; replace e3 := hE.g e3; replace e4 := hE.g e4
           replace k := k.env hE
           clear hE e49
           refine Z01 ?_
           refine ⟨⟨k, e0, e3, e4, i + 1, e5, by omega, fun u hu => ?_, hw, O⟩, ?_⟩
           · rw [List.take_add_one, hx] at hu; rcases List.mem_append.1 hu with hu | hu
             · exact hall u hu
             · simp at hu; rw [hu]; exact hbad
           · rw [e5, mi]; simp only [intOf]; omega
 · have hzI : ¬ (i : Int) < (R.length : Int) := by omega
   rw [List.take_of_length_le (by omega)] at hall
   replace hge := hge hall
   refine wp_seq ?_
   refine wp_seq ?_
   refine wp_region_lit ?_
   have hE := Env.refl a12 [11, 12, 13, 14]
   refine zm 11 hE k e5 ?_
   intro a360 hE e11 kp
   refine zm 12 hE k e3 ?_
   intro a361 hE e12 kp
   replace e11 := kt kp e11
   refine sd 13 hE k (Z0g Tryd.underlying54 rfl e12) ?_
   intro a362 hE e13 kp
   replace e11 := kt kp e11
   refine sd 14 hE k (Z05 (Z0c rfl e11 e13) (decide_eq_false (by omega))) ?_
   intro a363 hE e14 kp
   refine wpList_nil ?_
   replace e0 := hE.g e0; replace e3 := hE.g e3; replace e4 := hE.g e4; replace e5 := hE.g e5
   replace k := k.env hE
   clear hE
   refine Z01 ?_
   refine Z0b e14 rfl ?_
   refine wp_exit ?_
   refine Z0f ?_
   refine Z0f ?_
   refine Z0l ?_
   refine Z01 ?_
   by_cases h0 : l.length = 0
   · obtain rfl : l = [] := List.eq_nil_of_length_eq_zero h0
     refine wp_seq ?_
     refine wp_region_lit ?_
     have hE := Env.refl a363 [50, 51, 52, 53, 54, 55, 56, 57, 58, 59, 60, 61, 62, 63, 64, 65, 2]
     refine zm 50 hE k e0 ?_
     intro a364 hE e50 kp
     refine sd 51 hE k (Z0s Tryd.underlying9 rfl e50) ?_
     intro a365 hE e51 kp
     refine sd 52 hE k (Z05 (Z0k rfl e51 rfl) (decide_eq_true (by omega))) ?_
     intro a366 hE e52 kp
     refine sd 53 hE k (Z02 rfl e52) ?_
     intro a367 hE e53 kp
     refine Z04 54 hE k rfl (by rfl) (by rfl) rfl rfl (.inl e53) ?_
     intro a368 hE e54 kp
     replace e53 := kt kp e53
     refine Z04 55 hE k rfl (by rfl) (by rfl) rfl rfl (.inl e53) ?_
     intro a369 hE e55 kp
     replace e53 := kt kp e53
     refine Z04 56 hE k rfl (by rfl) (by rfl) rfl rfl (.inl e53) ?_
     intro a370 hE e56 kp
     replace e53 := kt kp e53
     refine Z04 57 hE k rfl (by rfl) (by rfl) rfl rfl (.inl e53) ?_
     intro a371 hE e57 kp
     replace e53 := kt kp e53
     refine Z04 58 hE k rfl (by rfl) (by rfl) rfl rfl (.inr e57) ?_
     intro a372 hE e58 kp
     replace e53 := kt kp e53; replace e57 := kt kp e57
     refine Z04 59 hE k rfl (by rfl) (by rfl) rfl rfl (.inr e57) ?_
     intro a373 hE e59 kp
     replace e53 := kt kp e53; replace e57 := kt kp e57; replace e58 := kt kp e58
     refine Z04 60 hE k rfl (by rfl) (by rfl) rfl rfl (.inr e57) ?_
     intro a374 hE e60 kp
     replace e53 := kt kp e53; replace e57 := kt kp e57; replace e58 := kt kp e58
     refine Z04 61 hE k rfl (by rfl) (by rfl) rfl rfl (.inr e57) ?_
     intro a375 hE e61 kp
     replace e53 := kt kp e53; replace e57 := kt kp e57; replace e58 := kt kp e58
     refine Z04 62 hE k rfl (by rfl) (by rfl) rfl rfl (.inr e57) ?_
     intro a376 hE e62 kp
     replace e53 := kt kp e53; replace e57 := kt kp e57
     refine Z04 63 hE k rfl (by rfl) (by rfl) rfl rfl (.inr e57) ?_
     intro a377 hE e63 kp
     replace e53 := kt kp e53; replace e57 := kt kp e57
     refine Z04 64 hE k rfl (by rfl) (by rfl) rfl rfl (.inl e53) ?_
     intro a378 hE e64 kp
     replace e53 := kt kp e53
     refine sd 65 hE k (Z07 rfl e53 rfl) ?_
     intro a379 hE e65 kp
     refine sd 2 hE k (Z03 rfl e65) ?_
     intro a380 hE e2 kp
     refine wpList_nil ?_
     replace k := k.env hE
     clear hE e0 e3 e4 e5 e14
     refine Z01 ?_
     refine wp_ret ?_
     refine Z0e rfl k e2 ?_
     exact ⟨by rw [hge]; rfl, O.below⟩
   · have h00 : 0 < l.length := by omega
     rw [Z7c h00, Z79 h00] at hge
     by_cases f1 : l.getD 0 0 = 32
     · skip
       refine wp_seq ?_
       refine wp_region_lit ?_
       have hE := Env.refl a363 [50, 51, 52, 53, 54, 55, 56, 57, 58, 59, 60, 61, 62, 63, 64, 65, 2]
       refine zm 50 hE k e0 ?_
       intro a381 hE e50 kp
       refine sd 51 hE k (Z0s Tryd.underlying9 rfl e50) ?_
       intro a382 hE e51 kp
       refine sd 52 hE k (Z05 (Z0k rfl e51 rfl) (decide_eq_false (by omega))) ?_
       intro a383 hE e52 kp
       refine sd 53 hE k (Z02 rfl e52) ?_
       intro a384 hE e53 kp
       apply Z00 54 hE k rfl rfl rfl rfl rfl e53
       case h =>
        exact Z02 rfl (hE.g e0)
       intro a385 hE e54 kp
       replace e53 := kt kp e53
       apply Z00 55 hE k rfl rfl rfl rfl rfl e53
       case h =>
        exact Z0x (l := l) (j := 0) Tryd.underlying9 rfl e54 rfl (by omega)
       intro a386 hE e55 kp
       replace e53 := kt kp e53
       apply Z00 56 hE k rfl rfl rfl rfl rfl e53
       case h =>
        exact Z05 (Z1d rfl e55 rfl) (decide_eq_false (fun h => h (by rw [f1]; rfl)))
       intro a387 hE e56 kp
       replace e53 := kt kp e53
       apply Z00 57 hE k rfl rfl rfl rfl rfl e53
       case h =>
        exact Z02 rfl e56
       intro a388 hE e57 kp
       replace e53 := kt kp e53
       refine Z04 58 hE k rfl (by rfl) (by rfl) rfl rfl (.inl e57) ?_
       intro a389 hE e58 kp
       replace e53 := kt kp e53; replace e57 := kt kp e57
       refine Z04 59 hE k rfl (by rfl) (by rfl) rfl rfl (.inl e57) ?_
       intro a390 hE e59 kp
       replace e53 := kt kp e53; replace e57 := kt kp e57; replace e58 := kt kp e58
       refine Z04 60 hE k rfl (by rfl) (by rfl) rfl rfl (.inl e57) ?_
       intro a391 hE e60 kp
       replace e53 := kt kp e53; replace e57 := kt kp e57; replace e58 := kt kp e58
       refine Z04 61 hE k rfl (by rfl) (by rfl) rfl rfl (.inl e57) ?_
       intro a392 hE e61 kp
       replace e53 := kt kp e53; replace e57 := kt kp e57; replace e58 := kt kp e58
       refine Z04 62 hE k rfl (by rfl) (by rfl) rfl rfl (.inl e57) ?_
       intro a393 hE e62 kp
       replace e53 := kt kp e53; replace e57 := kt kp e57
       refine Z04 63 hE k rfl (by rfl) (by rfl) rfl rfl (.inl e57) ?_
       intro a394 hE e63 kp
       replace e53 := kt kp e53; replace e57 := kt kp e57
       apply Z00 64 hE k rfl rfl rfl rfl rfl e53
       case h =>
        exact Z06 rfl e57 rfl
       intro a395 hE e64 kp
       replace e53 := kt kp e53
       refine sd 65 hE k (Z06 rfl e53 e64) ?_
       intro a396 hE e65 kp
       refine sd 2 hE k (Z03 rfl e65) ?_
       intro a397 hE e2 kp
       refine wpList_nil ?_
       replace k := k.env hE
       clear hE e0 e3 e4 e5 e14
       refine Z01 ?_
       refine wp_ret ?_
       refine Z0e rfl k e2 ?_
       exact ⟨by rw [hge, f1]; rfl, O.below⟩
     · by_cases f2 : l.getD (l.length - 1) 0 = 32
       · skip
         refine wp_seq ?_
         refine wp_region_lit ?_
         have hE := Env.refl a363 [50, 51, 52, 53, 54, 55, 56, 57, 58, 59, 60, 61, 62, 63, 64, 65, 2]
         refine zm 50 hE k e0 ?_
         intro a398 hE e50 kp
         refine sd 51 hE k (Z0s Tryd.underlying9 rfl e50) ?_
         intro a399 hE e51 kp
         refine sd 52 hE k (Z05 (Z0k rfl e51 rfl) (decide_eq_false (by omega))) ?_
         intro a400 hE e52 kp
         refine sd 53 hE k (Z02 rfl e52) ?_
         intro a401 hE e53 kp
         apply Z00 54 hE k rfl rfl rfl rfl rfl e53
         case h =>
          exact Z02 rfl (hE.g e0)
         intro a402 hE e54 kp
         replace e53 := kt kp e53
         apply Z00 55 hE k rfl rfl rfl rfl rfl e53
         case h =>
          exact Z0x (l := l) (j := 0) Tryd.underlying9 rfl e54 rfl (by omega)
         intro a403 hE e55 kp
         replace e53 := kt kp e53
         apply Z00 56 hE k rfl rfl rfl rfl rfl e53
         case h =>
          exact Z05 (Z1d rfl e55 rfl) (decide_eq_true (fun h => f1 (Z6t.1 (by rw [h]; rfl))))
         intro a404 hE e56 kp
         replace e53 := kt kp e53
         apply Z00 57 hE k rfl rfl rfl rfl rfl e53
         case h =>
          exact Z02 rfl e56
         intro a405 hE e57 kp
         replace e53 := kt kp e53
         apply Z00 58 hE k rfl rfl rfl rfl rfl e57
         case h =>
          exact Z02 rfl (hE.g e0)
         intro a406 hE e58 kp
         replace e53 := kt kp e53; replace e57 := kt kp e57
         apply Z00 59 hE k rfl rfl rfl rfl rfl e57
         case h =>
          exact Z02 rfl (hE.g e0)
         intro a407 hE e59 kp
         replace e53 := kt kp e53; replace e57 := kt kp e57; replace e58 := kt kp e58
         apply Z00 60 hE k rfl rfl rfl rfl rfl e57
         case h =>
          exact Z0s Tryd.underlying9 rfl e59
         intro a408 hE e60 kp
         replace e53 := kt kp e53; replace e57 := kt kp e57; replace e58 := kt kp e58
         apply Z00 61 hE k rfl rfl rfl rfl rfl e57
         case h =>
          exact Z3l rfl e60 rfl (by omega)
         intro a409 hE e61 kp
         replace e53 := kt kp e53; replace e57 := kt kp e57; replace e58 := kt kp e58
         replace e61 := e61.trans (Z0q (show (l.length : Int) - 1 = ((l.length - 1 : Nat) : Int) by omega))
         apply Z00 62 hE k rfl rfl rfl rfl rfl e57
         case h =>
          exact Z0x (l := l) (j := l.length - 1) Tryd.underlying9 rfl e58 e61 (by omega)
         intro a410 hE e62 kp
         replace e53 := kt kp e53; replace e57 := kt kp e57
         apply Z00 63 hE k rfl rfl rfl rfl rfl e57
         case h =>
          exact Z05 (Z1d rfl e62 rfl) (decide_eq_false (fun h => h (by rw [f2]; rfl)))
         intro a411 hE e63 kp
         replace e53 := kt kp e53; replace e57 := kt kp e57
         apply Z00 64 hE k rfl rfl rfl rfl rfl e53
         case h =>
          exact Z07 rfl e57 e63
         intro a412 hE e64 kp
         replace e53 := kt kp e53
         refine sd 65 hE k (Z06 rfl e53 e64) ?_
         intro a413 hE e65 kp
         refine sd 2 hE k (Z03 rfl e65) ?_
         intro a414 hE e2 kp
         refine wpList_nil ?_
         replace k := k.env hE
         clear hE e0 e3 e4 e5 e14
         refine Z01 ?_
         refine wp_ret ?_
         refine Z0e rfl k e2 ?_
         exact ⟨by rw [hge, f2]; simp, O.below⟩
       · skip
         refine wp_seq ?_
         refine wp_region_lit ?_
         have hE := Env.refl a363 [50, 51, 52, 53, 54, 55, 56, 57, 58, 59, 60, 61, 62, 63, 64, 65, 2]
         refine zm 50 hE k e0 ?_
         intro a415 hE e50 kp
         refine sd 51 hE k (Z0s Tryd.underlying9 rfl e50) ?_
         intro a416 hE e51 kp
         refine sd 52 hE k (Z05 (Z0k rfl e51 rfl) (decide_eq_false (by omega))) ?_
         intro a417 hE e52 kp
         refine sd 53 hE k (Z02 rfl e52) ?_
         intro a418 hE e53 kp
         apply Z00 54 hE k rfl rfl rfl rfl rfl e53
         case h =>
          exact Z02 rfl (hE.g e0)
         intro a419 hE e54 kp
         replace e53 := kt kp e53
         apply Z00 55 hE k rfl rfl rfl rfl rfl e53
         case h =>
          exact Z0x (l := l) (j := 0) Tryd.underlying9 rfl e54 rfl (by omega)
         intro a420 hE e55 kp
         replace e53 := kt kp e53
         apply Z00 56 hE k rfl rfl rfl rfl rfl e53
         case h =>
          exact Z05 (Z1d rfl e55 rfl) (decide_eq_true (fun h => f1 (Z6t.1 (by rw [h]; rfl))))
         intro a421 hE e56 kp
         replace e53 := kt kp e53
         apply Z00 57 hE k rfl rfl rfl rfl rfl e53
         case h =>
          exact Z02 rfl e56
         intro a422 hE e57 kp
         replace e53 := kt kp e53
         apply Z00 58 hE k rfl rfl rfl rfl rfl e57
         case h =>
          exact Z02 rfl (hE.g e0)
         intro a423 hE e58 kp
         replace e53 := kt kp e53; replace e57 := kt kp e57
         apply Z00 59 hE k rfl rfl rfl rfl rfl e57
         case h =>
          exact Z02 rfl (hE.g e0)
         intro a424 hE e59 kp
         replace e53 := kt kp e53; replace e57 := kt kp e57; replace e58 := kt kp e58
         apply Z00 60 hE k rfl rfl rfl rfl rfl e57
         case h =>
          exact Z0s Tryd.underlying9 rfl e59
         intro a425 hE e60 kp
         replace e53 := kt kp e53; replace e57 := kt kp e57; replace e58 := kt kp e58
         apply Z00 61 hE k rfl rfl rfl rfl rfl e57
         case h =>
          exact Z3l rfl e60 rfl (by omega)
         intro a426 hE e61 kp
         replace e53 := kt kp e53; replace e57 := kt kp e57; replace e58 := kt kp e58
         replace e61 := e61.trans (Z0q (show (l.length : Int) - 1 = ((l.length - 1 : Nat) : Int) by omega))
         apply Z00 62 hE k rfl rfl rfl rfl rfl e57
         case h =>
          exact Z0x (l := l) (j := l.length - 1) Tryd.underlying9 rfl e58 e61 (by omega)
         intro a427 hE e62 kp
         replace e53 := kt kp e53; replace e57 := kt kp e57
         apply Z00 63 hE k rfl rfl rfl rfl rfl e57
         case h =>
          exact Z05 (Z1d rfl e62 rfl) (decide_eq_true (fun h => f2 (Z6t.1 (by rw [h]; rfl))))
         intro a428 hE e63 kp
         replace e53 := kt kp e53; replace e57 := kt kp e57
         apply Z00 64 hE k rfl rfl rfl rfl rfl e53
         case h =>
          exact Z07 rfl e57 e63
         intro a429 hE e64 kp
         replace e53 := kt kp e53
         refine sd 65 hE k (Z06 rfl e53 e64) ?_
         intro a430 hE e65 kp
         refine sd 2 hE k (Z03 rfl e65) ?_
         intro a431 hE e2 kp
         refine wpList_nil ?_
         replace k := k.env hE
         clear hE e0 e3 e4 e5 e14
         refine Z01 ?_
         refine wp_ret ?_
         refine Z0e rfl k e2 ?_
         exact ⟨congrArg (fun b => Ending.returned (.bool b)) (Eq.symm (hge.trans (by rw [Bool.and_eq_true, bne_iff_ne, bne_iff_ne]; exact ⟨fun h => f1 (by injection h), fun h => f2 (by injection h)⟩))), O.below⟩
set_option maxRecDepth 100000 in
set_option maxHeartbeats 4000000 in
theorem Z5r {A : Option Addr} {ca : Nat} {X : List (List Tx)} (W0 : World) (h : TxsR W0 A X) (hn : X.length ≤ 1000000000) (hs : ∀ T ∈ X, T.length ≤ 1000000000 ∧ ∀ s ∈ T, s.length ≤ 1000) : Calls Tryd.prog 10 #[.slice A X.length ca] W0 fun e w' => e = .returned (.tuple #[.string (sB (rtxt X)), .bool (tableB X)]) ∧ Ext W0 w' := by
 have O := OwnT.start W0
 refine Z0m Tryd.func10 rfl 138 rfl (by rfl) ?_
 intro a1 k hargs
 have e0 : a1.eval (.tmp 0) = .slice A X.length ca := hargs 0 _ rfl
 clear hargs
 by_cases hbig : 1000 < X.length
 · have htab : tableB X = false := by unfold tableB; rw [decide_eq_false (by omega)]; rfl
   refine wp_seq ?_
   refine wp_region_lit ?_
   have hE := Env.refl a1 [2, 3]
   refine sd 2 hE k (Z03 rfl rfl) ?_
   intro a2 hE e2 kp
   refine sd 3 hE k (Z03 rfl rfl) ?_
   intro a3 hE e3 kp
   refine wpList_nil ?_
   replace e0 := hE.g e0
   replace k := k.env hE
   clear hE e3
   refine Z01 (wp_seq ?_)
   refine wp_seq ?_
   refine wp_region_lit ?_
   have hE := Env.refl a3 [13, 14, 15]
   refine zm 13 hE k e0 ?_
   intro a4 hE e13 kp
   refine sd 14 hE k (Z0g Tryd.underlying22 rfl e13) ?_
   intro a5 hE e14 kp
   refine sd 15 hE k (Z05 (Z0w rfl e14 rfl) (decide_eq_true (by omega))) ?_
   intro a6 hE e15 kp
   refine wpList_nil ?_
   replace e0 := hE.g e0
   replace k := k.env hE
   clear hE
   refine Z01 ?_
   refine Z09 e15 rfl ?_
   refine wp_seq ?_
   refine wp_region_lit ?_
   have hE := Env.refl a6 [2, 3]
   refine sd 2 hE k (Z03 rfl rfl) ?_
   intro a7 hE e2 kp
   refine sd 3 hE k (Z03 rfl rfl) ?_
   intro a8 hE e3 kp
   replace e2 := kt kp e2
   refine wpList_nil ?_
   replace k := k.env hE
   clear hE e0 e15
   refine Z01 ?_
   refine wp_ret ?_
   refine Z0a ?_
   refine Z0t rfl k e2 e3 ?_
   exact ⟨by rw [show rtxt X = [] from if_neg (by rw [htab]; decide), htab]; first | done | rfl, O.below⟩
 · skip
   refine wp_seq ?_
   refine wp_region_lit ?_
   have hE := Env.refl a1 [2, 3]
   refine sd 2 hE k (Z03 rfl rfl) ?_
   intro a9 hE e2 kp
   refine sd 3 hE k (Z03 rfl rfl) ?_
   intro a10 hE e3 kp
   refine wpList_nil ?_
   replace e0 := hE.g e0
   replace k := k.env hE
   clear hE e3
   refine Z01 (wp_seq ?_)
   refine wp_seq ?_
   refine wp_region_lit ?_
   have hE := Env.refl a10 [13, 14, 15]
   refine zm 13 hE k e0 ?_
   intro a11 hE e13 kp
   refine sd 14 hE k (Z0g Tryd.underlying22 rfl e13) ?_
   intro a12 hE e14 kp
   refine sd 15 hE k (Z05 (Z0w rfl e14 rfl) (decide_eq_false (by omega))) ?_
   intro a13 hE e15 kp
   refine wpList_nil ?_
   replace e0 := hE.g e0
   replace k := k.env hE
   clear hE
   refine Z01 ?_
   refine Z0b e15 rfl ?_
   refine wp_skip ?_
   refine Z01 (wp_seq ?_)
   refine wp_seq ?_
   refine wp_region_lit ?_
   have hE := Env.refl a13 [4]
   refine sd 4 hE k (Z03 rfl rfl) ?_
   intro a14 hE e4 kp
   refine wpList_nil ?_
   replace e0 := hE.g e0
   replace k := k.env hE
   clear hE e15
   refine Z01 ?_
   refine wp_block ?_
   refine wp_loop (fun a w => Fr 138 a ∧ a.eval (.tmp 0) = .slice A X.length ca ∧ ∃ (i : Nat), a.eval (.tmp 4) = .int .i64 ↑i ∧ i ≤ X.length ∧ (∀ T ∈ X.take i, T.length = (X.headD []).length ∧ T.length ≤ 100 ∧ ∀ s ∈ T, goodB s = true) ∧ OwnT W0.heap.size W0 [] w) (fun a w => X.length - (intOf (a.eval (.tmp 4))).toNat) ?_ ?_
   · exact ⟨k, e0, 0, e4, Nat.zero_le _, (fun y h => by simp at h), O⟩
   intro a15 w16 hI
   clear k e0
   obtain ⟨k, e0, h_⟩ := hI
   clear O e4
   obtain ⟨i, e4, hi, hall, O⟩ := h_
   have mi := e4
   by_cases hlt : i < X.length
   · skip
     have hzI : (i : Int) < (X.length : Int) := by omega
     obtain ⟨T, hT⟩ : ∃ T, X[i]? = some T := ⟨_, List.getElem?_eq_getElem hlt⟩
     obtain ⟨T0, hT0⟩ : ∃ T, X[0]? = some T := ⟨_, List.getElem?_eq_getElem (by omega)⟩
     have hhd : X.headD [] = T0 := by cases X with | nil => simp at hT0 | cons a r => simp at hT0; exact hT0
     obtain ⟨b, o, hA, hsp⟩ := h.spot hT
     obtain ⟨Aj, cj, hr, hc⟩ := hsp i T hT
     obtain ⟨A0, c0, -, hc0⟩ := hsp 0 T0 hT0
     simp only [Nat.add_zero] at hc0
     have hmem := List.mem_of_getElem? hT
     have hTn := (hs T hmem).1
     have hT0n := (hs T0 (List.mem_of_getElem? hT0)).1
     subst hA

     by_cases p1 : T.length = T0.length
     rotate_left
     · have htab := Z5k hmem (.inl (by rw [hhd]; exact p1))
       refine wp_seq ?_
       refine wp_seq ?_
       refine wp_region_lit ?_
       have hE := Env.refl a15 [16, 17, 18, 19]
       refine zm 16 hE k e4 ?_
       intro a17 hE e16 kp
       refine zm 17 hE k e0 ?_
       intro a18 hE e17 kp
       replace e16 := kt kp e16
       refine sd 18 hE k (Z0g Tryd.underlying22 rfl e17) ?_
       intro a19 hE e18 kp
       replace e16 := kt kp e16
       refine sd 19 hE k (Z05 (Z0c rfl e16 e18) (decide_eq_true (by omega))) ?_
       intro a20 hE e19 kp
       refine wpList_nil ?_
       replace e0 := hE.g e0; replace e4 := hE.g e4
       replace k := k.env hE
       clear hE
       refine Z01 ?_
       refine Z09 e19 rfl ?_
       refine wp_skip ?_
       refine Z01 (wp_seq ?_)
       refine wp_block ?_
       refine wp_seq ?_
       refine wp_seq ?_
       refine Z1b (R := Ext) (w0 := w16) [[], [], [0, 1], [0, 1, 2], [0, 1, 2, 3], [], [5], [5, 6], [5, 6, 7], [0, 1, 2, 3, 4, 5, 6, 7, 8], [0, 1, 2, 3, 4, 5, 6, 7, 8, 9], [0, 1, 2, 3, 4, 5, 6, 7, 8, 9, 10], [0, 1, 2, 3, 4, 5, 6, 7, 8, 9, 10], [0, 1, 2, 3, 4, 5, 6, 7, 8, 9, 10, 11, 12], [0, 1, 2, 3, 4, 5, 6, 7, 8, 9, 10, 11, 12, 13], [0, 1, 2, 3, 4, 5, 6, 7, 8, 9, 10, 11, 12, 13, 14], [0, 1, 2, 3, 4, 5, 6, 7, 8, 9, 10, 11, 12, 13, 14, 15], [0, 1, 2, 3, 4, 5, 6, 7, 8, 9, 10, 11, 12, 13, 14, 15, 16]] [22, 23, 24, 25, 26, 27, 28, 29, 30, 31, 32, 33, 34, 35, 36, 37, 38, 39] Ext.refl (fun _ _ _ => Ext.trans) (Ext.drew _) (by kernel_rfl) ?_
       apply bd 22 k rfl rfl rfl
       case h =>
        intro ax wx hE hR hF
        exact Z02 rfl (hE.g e0)
       apply bd 23 k rfl rfl rfl
       case h =>
        intro ax wx hE hR hF
        exact Z02 rfl (hE.g e4)
       apply bd 24 k rfl rfl rfl
       case h =>
        intro ax wx hE hR hF
        have e22 := zhF hF 0 22 ml1
        have e23 := zhF hF 1 23 ml0
        simp [go_sem, ↓IntWalk.iteOmega, ev e22, ev e23]
        with_reducible rfl
       apply bd 25 k rfl rfl rfl
       case h =>
        intro ax wx hE hR hF
        have e24 := zhF hF 2 24 ml0
        simp [go_sem, ↓IntWalk.iteOmega, ev e24, hc _ (OwnT.ext O hR).below]
        with_reducible rfl
       apply bd 26 k rfl rfl rfl
       case h =>
        intro ax wx hE hR hF
        have e25 := zhF hF 3 25 ml0
        exact Z0g Tryd.underlying36 rfl e25
       apply bd 27 k rfl rfl rfl
       case h =>
        intro ax wx hE hR hF
        exact Z02 rfl (hE.g e0)
       apply bd 28 k rfl rfl rfl
       case h =>
        intro ax wx hE hR hF
        have e27 := zhF hF 5 27 ml0
        simp [go_sem, ↓IntWalk.iteOmega, ev e27]
        with_reducible rfl
       apply bd 29 k rfl rfl rfl
       case h =>
        intro ax wx hE hR hF
        have e28 := zhF hF 6 28 ml0
        simp [go_sem, ↓IntWalk.iteOmega, ev e28, hc0 _ (OwnT.ext O hR).below]
        with_reducible rfl
       apply bd 30 k rfl rfl rfl
       case h =>
        intro ax wx hE hR hF
        have e29 := zhF hF 7 29 ml0
        exact Z0g Tryd.underlying36 rfl e29
       apply bd 31 k rfl rfl rfl
       case h =>
        intro ax wx hE hR hF
        have e26 := zhF hF 4 26 ml4
        have e30 := zhF hF 8 30 ml0
        exact Z05 (Z1d rfl e26 e30) (decide_eq_true (by omega))
       apply bd 32 k rfl rfl rfl
       case h =>
        intro ax wx hE hR hF
        have e31 := zhF hF 9 31 ml0
        exact Z02 rfl e31
       refine Build.skip 33 (by rfl) (by rw [k.size]; rfl) rfl rfl ?_ ?_
       · intro ax wx hE hR hF
         have e32 := zhF hF 10 32 ml0
         exact e32
       refine Build.skip 34 (by rfl) (by rw [k.size]; rfl) rfl rfl ?_ ?_
       · intro ax wx hE hR hF
         have e32 := zhF hF 10 32 ml1
         exact e32
       refine Build.skip 35 (by rfl) (by rw [k.size]; rfl) rfl rfl ?_ ?_
       · intro ax wx hE hR hF
         have e32 := zhF hF 10 32 ml2
         exact e32
       refine Build.skip 36 (by rfl) (by rw [k.size]; rfl) rfl rfl ?_ ?_
       · intro ax wx hE hR hF
         have e32 := zhF hF 10 32 ml3
         exact e32
       refine Build.skip 37 (by rfl) (by rw [k.size]; rfl) rfl rfl ?_ ?_
       · intro ax wx hE hR hF
         have e32 := zhF hF 10 32 ml4
         exact e32
       refine Build.skip 38 (by rfl) (by rw [k.size]; rfl) rfl rfl ?_ ?_
       · intro ax wx hE hR hF
         have e32 := zhF hF 10 32 ml5
         exact e32
       apply bd 39 k rfl rfl rfl
       case h =>
        intro ax wx hE hR hF
        have e32 := zhF hF 10 32 ml6
        have e38 := zhF hF 16 38 ml0
        exact Z07 rfl e32 rfl
       apply Build.stop
       refine ⟨by kernel_rfl, .inl ⟨rfl, ?_⟩⟩
       intro a21 w22 hE R hF
       have e39 : a21.eval (.tmp 39) = _ := hF 17 (det 39 _) ml0
       clear hF
       replace O := OwnT.ext O R
       clear R
       replace e0 := hE.g e0; replace e4 := hE.g e4
       replace k := k.env hE
       clear hE e19
       refine Z01 ?_
       refine Z09 e39 rfl ?_
       refine wp_seq ?_
       refine wp_region_lit ?_
       have hE := Env.refl a21 [2, 3]
       refine sd 2 hE k (Z03 rfl rfl) ?_
       intro a23 hE e2 kp
       refine sd 3 hE k (Z03 rfl rfl) ?_
       intro a24 hE e3 kp
       replace e2 := kt kp e2
       refine wpList_nil ?_
       replace k := k.env hE
       clear hE e0 e4 e39
       refine Z01 ?_
       refine wp_ret ?_
       refine Z0a ?_
       refine Z0h ?_
       refine Z0a ?_
       refine Z0a ?_
       refine Z0h ?_
       refine Z0a ?_
       refine Z0t rfl k e2 e3 ?_
       exact ⟨by rw [show rtxt X = [] from if_neg (by rw [htab]; decide), htab]; first | done | rfl, O.below⟩
     by_cases p2 : 100 < T.length
     · have htab := Z5k hmem (.inr (.inl p2))
       refine wp_seq ?_
       refine wp_seq ?_
       refine wp_region_lit ?_
       have hE := Env.refl a15 [16, 17, 18, 19]
       refine zm 16 hE k e4 ?_
       intro a25 hE e16 kp
       refine zm 17 hE k e0 ?_
       intro a26 hE e17 kp
       replace e16 := kt kp e16
       refine sd 18 hE k (Z0g Tryd.underlying22 rfl e17) ?_
       intro a27 hE e18 kp
       replace e16 := kt kp e16
       refine sd 19 hE k (Z05 (Z0c rfl e16 e18) (decide_eq_true (by omega))) ?_
       intro a28 hE e19 kp
       refine wpList_nil ?_
       replace e0 := hE.g e0; replace e4 := hE.g e4
       replace k := k.env hE
       clear hE
       refine Z01 ?_
       refine Z09 e19 rfl ?_
       refine wp_skip ?_
       refine Z01 (wp_seq ?_)
       refine wp_block ?_
       refine wp_seq ?_
       refine wp_seq ?_
       refine Z1b (R := Ext) (w0 := w16) [[], [], [0, 1], [0, 1, 2], [0, 1, 2, 3], [], [5], [5, 6], [5, 6, 7], [0, 1, 2, 3, 4, 5, 6, 7, 8], [0, 1, 2, 3, 4, 5, 6, 7, 8, 9], [0, 1, 2, 3, 4, 5, 6, 7, 8, 9, 10], [0, 1, 2, 3, 4, 5, 6, 7, 8, 9, 10], [0, 1, 2, 3, 4, 5, 6, 7, 8, 9, 10, 11, 12], [0, 1, 2, 3, 4, 5, 6, 7, 8, 9, 10, 11, 12, 13], [0, 1, 2, 3, 4, 5, 6, 7, 8, 9, 10, 11, 12, 13, 14], [0, 1, 2, 3, 4, 5, 6, 7, 8, 9, 10, 11, 12, 13, 14, 15], [0, 1, 2, 3, 4, 5, 6, 7, 8, 9, 10, 11, 12, 13, 14, 15, 16]] [22, 23, 24, 25, 26, 27, 28, 29, 30, 31, 32, 33, 34, 35, 36, 37, 38, 39] Ext.refl (fun _ _ _ => Ext.trans) (Ext.drew _) (by kernel_rfl) ?_
       apply bd 22 k rfl rfl rfl
       case h =>
        intro ax wx hE hR hF
        exact Z02 rfl (hE.g e0)
       apply bd 23 k rfl rfl rfl
       case h =>
        intro ax wx hE hR hF
        exact Z02 rfl (hE.g e4)
       apply bd 24 k rfl rfl rfl
       case h =>
        intro ax wx hE hR hF
        have e22 := zhF hF 0 22 ml1
        have e23 := zhF hF 1 23 ml0
        simp [go_sem, ↓IntWalk.iteOmega, ev e22, ev e23]
        with_reducible rfl
       apply bd 25 k rfl rfl rfl
       case h =>
        intro ax wx hE hR hF
        have e24 := zhF hF 2 24 ml0
        simp [go_sem, ↓IntWalk.iteOmega, ev e24, hc _ (OwnT.ext O hR).below]
        with_reducible rfl
       apply bd 26 k rfl rfl rfl
       case h =>
        intro ax wx hE hR hF
        have e25 := zhF hF 3 25 ml0
        exact Z0g Tryd.underlying36 rfl e25
       apply bd 27 k rfl rfl rfl
       case h =>
        intro ax wx hE hR hF
        exact Z02 rfl (hE.g e0)
       apply bd 28 k rfl rfl rfl
       case h =>
        intro ax wx hE hR hF
        have e27 := zhF hF 5 27 ml0
        simp [go_sem, ↓IntWalk.iteOmega, ev e27]
        with_reducible rfl
       apply bd 29 k rfl rfl rfl
       case h =>
        intro ax wx hE hR hF
        have e28 := zhF hF 6 28 ml0
        simp [go_sem, ↓IntWalk.iteOmega, ev e28, hc0 _ (OwnT.ext O hR).below]
        with_reducible rfl
       apply bd 30 k rfl rfl rfl
       case h =>
        intro ax wx hE hR hF
        have e29 := zhF hF 7 29 ml0
        exact Z0g Tryd.underlying36 rfl e29
       apply bd 31 k rfl rfl rfl
       case h =>
        intro ax wx hE hR hF
        have e26 := zhF hF 4 26 ml4
        have e30 := zhF hF 8 30 ml0
        exact Z05 (Z1d rfl e26 e30) (decide_eq_false (by omega))
       apply bd 32 k rfl rfl rfl
       case h =>
        intro ax wx hE hR hF
        have e31 := zhF hF 9 31 ml0
        exact Z02 rfl e31
       apply bdg 33 k rfl rfl rfl rfl
       case h =>
        intro ax wx hE hR hF
        have e32 := zhF hF 10 32 ml0
        refine ⟨e32, ?_⟩
        exact Z02 rfl (hE.g e0)
       apply bdg 34 k rfl rfl rfl rfl
       case h =>
        intro ax wx hE hR hF
        have e32 := zhF hF 10 32 ml1
        refine ⟨e32, ?_⟩
        exact Z02 rfl (hE.g e4)
       apply bdg 35 k rfl rfl rfl rfl
       case h =>
        intro ax wx hE hR hF
        have e33 := zhF hF 11 33 ml1
        have e34 := zhF hF 12 34 ml0
        have e32 := zhF hF 10 32 ml2
        refine ⟨e32, ?_⟩
        simp [go_sem, ↓IntWalk.iteOmega, ev e33, ev e34]
        with_reducible rfl
       apply bdg 36 k rfl rfl rfl rfl
       case h =>
        intro ax wx hE hR hF
        have e35 := zhF hF 13 35 ml0
        have e32 := zhF hF 10 32 ml3
        refine ⟨e32, ?_⟩
        simp [go_sem, ↓IntWalk.iteOmega, ev e35, hc _ (OwnT.ext O hR).below]
        with_reducible rfl
       apply bdg 37 k rfl rfl rfl rfl
       case h =>
        intro ax wx hE hR hF
        have e36 := zhF hF 14 36 ml0
        have e32 := zhF hF 10 32 ml4
        refine ⟨e32, ?_⟩
        exact Z0g Tryd.underlying36 rfl e36
       apply bdg 38 k rfl rfl rfl rfl
       case h =>
        intro ax wx hE hR hF
        have e37 := zhF hF 15 37 ml0
        have e32 := zhF hF 10 32 ml5
        refine ⟨e32, ?_⟩
        exact Z05 (Z0w rfl e37 rfl) (decide_eq_true (by omega))
       apply bd 39 k rfl rfl rfl
       case h =>
        intro ax wx hE hR hF
        have e32 := zhF hF 10 32 ml6
        have e38 := zhF hF 16 38 ml0
        exact Z06 rfl e32 e38
       apply Build.stop
       refine ⟨by kernel_rfl, .inl ⟨rfl, ?_⟩⟩
       intro a29 w30 hE R hF
       have e39 : a29.eval (.tmp 39) = _ := hF 17 (det 39 _) ml0
       clear hF
       replace O := OwnT.ext O R
       clear R
       replace e0 := hE.g e0; replace e4 := hE.g e4
       replace k := k.env hE
       clear hE e19
       refine Z01 ?_
       refine Z09 e39 rfl ?_
       refine wp_seq ?_
       refine wp_region_lit ?_
       have hE := Env.refl a29 [2, 3]
       refine sd 2 hE k (Z03 rfl rfl) ?_
       intro a31 hE e2 kp
       refine sd 3 hE k (Z03 rfl rfl) ?_
       intro a32 hE e3 kp
       replace e2 := kt kp e2
       refine wpList_nil ?_
       replace k := k.env hE
       clear hE e0 e4 e39
       refine Z01 ?_
       refine wp_ret ?_
       refine Z0a ?_
       refine Z0h ?_
       refine Z0a ?_
       refine Z0a ?_
       refine Z0h ?_
       refine Z0a ?_
       refine Z0t rfl k e2 e3 ?_
       exact ⟨by rw [show rtxt X = [] from if_neg (by rw [htab]; decide), htab]; first | done | rfl, O.below⟩
     · skip
       refine wp_seq ?_
       refine wp_seq ?_
       refine wp_region_lit ?_
       have hE := Env.refl a15 [16, 17, 18, 19]
       refine zm 16 hE k e4 ?_
       intro a33 hE e16 kp
       refine zm 17 hE k e0 ?_
       intro a34 hE e17 kp
       replace e16 := kt kp e16
       refine sd 18 hE k (Z0g Tryd.underlying22 rfl e17) ?_
       intro a35 hE e18 kp
       replace e16 := kt kp e16
       refine sd 19 hE k (Z05 (Z0c rfl e16 e18) (decide_eq_true (by omega))) ?_
       intro a36 hE e19 kp
       refine wpList_nil ?_
       replace e0 := hE.g e0; replace e4 := hE.g e4
       replace k := k.env hE
       clear hE
       refine Z01 ?_
       refine Z09 e19 rfl ?_
       refine wp_skip ?_
       refine Z01 (wp_seq ?_)
       refine wp_block ?_
       refine wp_seq ?_
       refine wp_seq ?_
       refine Z1b (R := Ext) (w0 := w16) [[], [], [0, 1], [0, 1, 2], [0, 1, 2, 3], [], [5], [5, 6], [5, 6, 7], [0, 1, 2, 3, 4, 5, 6, 7, 8], [0, 1, 2, 3, 4, 5, 6, 7, 8, 9], [0, 1, 2, 3, 4, 5, 6, 7, 8, 9, 10], [0, 1, 2, 3, 4, 5, 6, 7, 8, 9, 10], [0, 1, 2, 3, 4, 5, 6, 7, 8, 9, 10, 11, 12], [0, 1, 2, 3, 4, 5, 6, 7, 8, 9, 10, 11, 12, 13], [0, 1, 2, 3, 4, 5, 6, 7, 8, 9, 10, 11, 12, 13, 14], [0, 1, 2, 3, 4, 5, 6, 7, 8, 9, 10, 11, 12, 13, 14, 15], [0, 1, 2, 3, 4, 5, 6, 7, 8, 9, 10, 11, 12, 13, 14, 15, 16]] [22, 23, 24, 25, 26, 27, 28, 29, 30, 31, 32, 33, 34, 35, 36, 37, 38, 39] Ext.refl (fun _ _ _ => Ext.trans) (Ext.drew _) (by kernel_rfl) ?_
       apply bd 22 k rfl rfl rfl
       case h =>
        intro ax wx hE hR hF
        exact Z02 rfl (hE.g e0)
       apply bd 23 k rfl rfl rfl
       case h =>
        intro ax wx hE hR hF
        exact Z02 rfl (hE.g e4)
       apply bd 24 k rfl rfl rfl
       case h =>
        intro ax wx hE hR hF
        have e22 := zhF hF 0 22 ml1
        have e23 := zhF hF 1 23 ml0
        simp [go_sem, ↓IntWalk.iteOmega, ev e22, ev e23]
        with_reducible rfl
       apply bd 25 k rfl rfl rfl
       case h =>
        intro ax wx hE hR hF
        have e24 := zhF hF 2 24 ml0
        simp [go_sem, ↓IntWalk.iteOmega, ev e24, hc _ (OwnT.ext O hR).below]
        with_reducible rfl
       apply bd 26 k rfl rfl rfl
       case h =>
        intro ax wx hE hR hF
        have e25 := zhF hF 3 25 ml0
        exact Z0g Tryd.underlying36 rfl e25
       apply bd 27 k rfl rfl rfl
       case h =>
        intro ax wx hE hR hF
        exact Z02 rfl (hE.g e0)
       apply bd 28 k rfl rfl rfl
       case h =>
        intro ax wx hE hR hF
        have e27 := zhF hF 5 27 ml0
        simp [go_sem, ↓IntWalk.iteOmega, ev e27]
        with_reducible rfl
       apply bd 29 k rfl rfl rfl
       case h =>
        intro ax wx hE hR hF
        have e28 := zhF hF 6 28 ml0
        simp [go_sem, ↓IntWalk.iteOmega, ev e28, hc0 _ (OwnT.ext O hR).below]
        with_reducible rfl
       apply bd 30 k rfl rfl rfl
       case h =>
        intro ax wx hE hR hF
        have e29 := zhF hF 7 29 ml0
        exact Z0g Tryd.underlying36 rfl e29
       apply bd 31 k rfl rfl rfl
       case h =>
        intro ax wx hE hR hF
        have e26 := zhF hF 4 26 ml4
        have e30 := zhF hF 8 30 ml0
        exact Z05 (Z1d rfl e26 e30) (decide_eq_false (by omega))
       apply bd 32 k rfl rfl rfl
       case h =>
        intro ax wx hE hR hF
        have e31 := zhF hF 9 31 ml0
        exact Z02 rfl e31
       apply bdg 33 k rfl rfl rfl rfl
       case h =>
        intro ax wx hE hR hF
        have e32 := zhF hF 10 32 ml0
        refine ⟨e32, ?_⟩
        exact Z02 rfl (hE.g e0)
       apply bdg 34 k rfl rfl rfl rfl
       case h =>
        intro ax wx hE hR hF
        have e32 := zhF hF 10 32 ml1
        refine ⟨e32, ?_⟩
        exact Z02 rfl (hE.g e4)
       apply bdg 35 k rfl rfl rfl rfl
       case h =>
        intro ax wx hE hR hF
        have e33 := zhF hF 11 33 ml1
        have e34 := zhF hF 12 34 ml0
        have e32 := zhF hF 10 32 ml2
        refine ⟨e32, ?_⟩
        simp [go_sem, ↓IntWalk.iteOmega, ev e33, ev e34]
        with_reducible rfl
       apply bdg 36 k rfl rfl rfl rfl
       case h =>
        intro ax wx hE hR hF
        have e35 := zhF hF 13 35 ml0
        have e32 := zhF hF 10 32 ml3
        refine ⟨e32, ?_⟩
        simp [go_sem, ↓IntWalk.iteOmega, ev e35, hc _ (OwnT.ext O hR).below]
        with_reducible rfl
       apply bdg 37 k rfl rfl rfl rfl
       case h =>
        intro ax wx hE hR hF
        have e36 := zhF hF 14 36 ml0
        have e32 := zhF hF 10 32 ml4
        refine ⟨e32, ?_⟩
        exact Z0g Tryd.underlying36 rfl e36
       apply bdg 38 k rfl rfl rfl rfl
       case h =>
        intro ax wx hE hR hF
        have e37 := zhF hF 15 37 ml0
        have e32 := zhF hF 10 32 ml5
        refine ⟨e32, ?_⟩
        exact Z05 (Z0w rfl e37 rfl) (decide_eq_false (by omega))
       apply bd 39 k rfl rfl rfl
       case h =>
        intro ax wx hE hR hF
        have e32 := zhF hF 10 32 ml6
        have e38 := zhF hF 16 38 ml0
        exact Z06 rfl e32 e38
       apply Build.stop
       refine ⟨by kernel_rfl, .inl ⟨rfl, ?_⟩⟩
       intro a37 w38 hE R hF
       have e39 : a37.eval (.tmp 39) = _ := hF 17 (det 39 _) ml0
       clear hF
       replace O := OwnT.ext O R
       clear R
       replace e0 := hE.g e0; replace e4 := hE.g e4
       replace k := k.env hE
       clear hE e19
       refine Z01 ?_
       refine Z0b e39 rfl ?_
       refine wp_skip ?_
       refine Z01 (wp_seq ?_)
       refine wp_region_lit ?_
       have hE := Env.refl a37 [5]
       refine sd 5 hE k (Z03 rfl rfl) ?_
       intro a39 hE e5 kp
       refine wpList_nil ?_
       replace e0 := hE.g e0; replace e4 := hE.g e4
       replace k := k.env hE
       clear hE e39
       refine Z01 ?_
       refine wp_block ?_
       refine wp_loop (fun a w => Fr 138 a ∧ a.eval (.tmp 0) = .slice (some ⟨b, o, none⟩) X.length ca ∧ a.eval (.tmp 4) = .int .i64 ↑i ∧ ∃ (j : Nat), a.eval (.tmp 5) = .int .i64 ↑j ∧ j ≤ T.length ∧ (∀ s ∈ T.take j, goodB s = true) ∧ OwnT W0.heap.size W0 [] w) (fun a w => T.length - (intOf (a.eval (.tmp 5))).toNat) ?_ ?_
       · exact ⟨k, e0, e4, 0, e5, Nat.zero_le _, (fun y h => by simp at h), O⟩
       intro a40 w41 hJ
       clear k e0 e4
       obtain ⟨k, e0, e4, h_⟩ := hJ
       clear O e5
       obtain ⟨j, e5, hj, hal2, O⟩ := h_
       have mj := e5
       by_cases hlj : j < T.length
       · skip
         refine wp_seq ?_
         refine wp_seq ?_
         refine wp_region_lit ?_
         have hE := Env.refl a40 [40, 41, 42, 43, 44, 45, 46]
         refine zm 40 hE k e5 ?_
         intro a42 hE e40 kp
         refine zm 41 hE k e0 ?_
         intro a43 hE e41 kp
         replace e40 := kt kp e40
         refine zm 42 hE k e4 ?_
         intro a44 hE e42 kp
         replace e40 := kt kp e40; replace e41 := kt kp e41
         apply Z08 43 hE k rfl rfl rfl rfl
         case h =>
          simp [go_sem, ↓IntWalk.iteOmega, ev e41, ev e42]
          with_reducible rfl
         intro a45 hE e43 kp
         replace e40 := kt kp e40
         apply Z08 44 hE k rfl rfl rfl rfl
         case h =>
          simp [go_sem, ↓IntWalk.iteOmega, ev e43, hc _ O.below]
          with_reducible rfl
         intro a46 hE e44 kp
         replace e40 := kt kp e40
         refine sd 45 hE k (Z0g Tryd.underlying36 rfl e44) ?_
         intro a47 hE e45 kp
         replace e40 := kt kp e40
         refine sd 46 hE k (Z05 (Z0c rfl e40 e45) (decide_eq_true (by omega))) ?_
         intro a48 hE e46 kp
         refine wpList_nil ?_
         replace e0 := hE.g e0; replace e4 := hE.g e4; replace e5 := hE.g e5
         replace k := k.env hE
         clear hE
         refine Z01 ?_
         refine Z09 e46 rfl ?_
         refine wp_skip ?_
         refine Z01 (wp_seq ?_)
         refine wp_block ?_
         obtain ⟨s, hs_⟩ : ∃ s, T[j]? = some s := ⟨_, List.getElem?_eq_getElem hlj⟩
         obtain ⟨b2, o2, hA2, hsp2⟩ := hr.spot hs_
         have hsm := List.mem_of_getElem? hs_
         have hsl := (hs T hmem).2 s hsm
         subst hA2

         cases hg : goodB s with
         | false =>
          have htab := Z5k hmem (.inr (.inr ⟨s, hsm, hg⟩))
          refine wp_seq ?_
          refine wp_region_lit ?_
          have hE := Env.refl a48 [49, 50, 51, 52, 53, 54, 55, 56, 57]
          refine zm 49 hE k e0 ?_
          intro a49 hE e49 kp
          refine zm 50 hE k e4 ?_
          intro a50 hE e50 kp
          replace e49 := kt kp e49
          apply Z08 51 hE k rfl rfl rfl rfl
          case h =>
           simp [go_sem, ↓IntWalk.iteOmega, ev e49, ev e50]
           with_reducible rfl
          intro a51 hE e51 kp
          apply Z08 52 hE k rfl rfl rfl rfl
          case h =>
           simp [go_sem, ↓IntWalk.iteOmega, ev e51, hc _ O.below]
           with_reducible rfl
          intro a52 hE e52 kp
          refine zm 53 hE k e5 ?_
          intro a53 hE e53 kp
          replace e52 := kt kp e52
          apply Z08 54 hE k rfl rfl rfl rfl
          case h =>
           simp [go_sem, ↓IntWalk.iteOmega, ev e52, ev e53]
           with_reducible rfl
          intro a54 hE e54 kp
          apply Z08 55 hE k rfl rfl rfl rfl
          case h =>
           simp [go_sem, ↓IntWalk.iteOmega, ev e54, hsp2 _ O.below j s hs_]
           with_reducible rfl
          intro a55 hE e55 kp
          apply Z0d 56 hE k rfl (by rfl) (by rfl) rfl
          case h =>
           simp [go_sem, ↓IntWalk.iteOmega, ev e55]
           with_reducible exact ⟨rfl, rfl⟩
          case hc => exact Z2k s _ (by omega)
          rintro e w57 ⟨he, RE⟩
          replace O := OwnT.ext O RE
          refine ⟨_, he.trans (congrArg (fun b => Ending.returned (.bool b)) hg), ?_⟩
          intro a56 hE e56 kp
          refine sd 57 hE k (Z2a rfl e56) ?_
          intro a58 hE e57 kp
          refine wpList_nil ?_
          replace e0 := hE.g e0; replace e4 := hE.g e4; replace e5 := hE.g e5
          replace k := k.env hE
          clear hE e46
          refine Z01 ?_
          refine Z09 e57 rfl ?_
          refine wp_seq ?_
          refine wp_region_lit ?_
          have hE := Env.refl a58 [2, 3]
          refine sd 2 hE k (Z03 rfl rfl) ?_
          intro a59 hE e2 kp
          refine sd 3 hE k (Z03 rfl rfl) ?_
          intro a60 hE e3 kp
          replace e2 := kt kp e2
          refine wpList_nil ?_
          replace k := k.env hE
          clear hE e0 e4 e5 e57
          refine Z01 ?_
          refine wp_ret ?_
          refine Z0h ?_
          refine Z0a ?_
          refine Z0a ?_
          refine Z0h ?_
          refine Z0h ?_
          refine Z0a ?_
          refine Z0a ?_
          refine Z0h ?_
          refine Z0a ?_
          refine Z0t rfl k e2 e3 ?_
          exact ⟨by rw [show rtxt X = [] from if_neg (by rw [htab]; decide), htab]; first | done | rfl, O.below⟩
         | true =>
          refine wp_seq ?_
          refine wp_region_lit ?_
          have hE := Env.refl a48 [49, 50, 51, 52, 53, 54, 55, 56, 57]
          refine zm 49 hE k e0 ?_
          intro a61 hE e49 kp
          refine zm 50 hE k e4 ?_
          intro a62 hE e50 kp
          replace e49 := kt kp e49
          apply Z08 51 hE k rfl rfl rfl rfl
          case h =>
           simp [go_sem, ↓IntWalk.iteOmega, ev e49, ev e50]
           with_reducible rfl
          intro a63 hE e51 kp
          apply Z08 52 hE k rfl rfl rfl rfl
          case h =>
           simp [go_sem, ↓IntWalk.iteOmega, ev e51, hc _ O.below]
           with_reducible rfl
          intro a64 hE e52 kp
          refine zm 53 hE k e5 ?_
          intro a65 hE e53 kp
          replace e52 := kt kp e52
          apply Z08 54 hE k rfl rfl rfl rfl
          case h =>
           simp [go_sem, ↓IntWalk.iteOmega, ev e52, ev e53]
           with_reducible rfl
          intro a66 hE e54 kp
          apply Z08 55 hE k rfl rfl rfl rfl
          case h =>
           simp [go_sem, ↓IntWalk.iteOmega, ev e54, hsp2 _ O.below j s hs_]
           with_reducible rfl
          intro a67 hE e55 kp
          apply Z0d 56 hE k rfl (by rfl) (by rfl) rfl
          case h =>
           simp [go_sem, ↓IntWalk.iteOmega, ev e55]
           with_reducible exact ⟨rfl, rfl⟩
          case hc => exact Z2k s _ (by omega)
          rintro e w69 ⟨he, RE⟩
          replace O := OwnT.ext O RE
          refine ⟨_, he.trans (congrArg (fun b => Ending.returned (.bool b)) hg), ?_⟩
          intro a68 hE e56 kp
          refine sd 57 hE k (Z2a rfl e56) ?_
          intro a70 hE e57 kp
          refine wpList_nil ?_
          replace e0 := hE.g e0; replace e4 := hE.g e4; replace e5 := hE.g e5
          replace k := k.env hE
          clear hE e46
          refine Z01 ?_
          refine Z0b e57 rfl ?_
          refine wp_skip ?_
          refine Z0i ?_
          refine Z01 ?_
          refine wp_region_lit ?_
          have hE := Env.refl a70 [47, 48, 5]
          refine sd 47 hE k (Z02 rfl e5) ?_
          intro a71 hE e47 kp
          replace e5 := kt kp e5
          refine sd 48 hE k (Z0z rfl e47 rfl (by omega)) ?_
          intro a72 hE e48 kp
          replace e5 := kt kp e5
          refine sd 5 hE k (Z03 rfl e48) ?_
          intro a73 hE e5 kp
          refine wpList_nil ?_
          replace e0 := hE.g e0; replace e4 := hE.g e4
          replace k := k.env hE
          clear hE e57
          refine Z01 ?_
          refine ⟨⟨k, e0, e4, j + 1, e5, by omega, fun u hu => ?_, O⟩, ?_⟩
          · rw [List.take_add_one, hs_] at hu; rcases List.mem_append.1 hu with hu | hu
            · exact hal2 u hu
            · simp at hu; rw [hu]; exact hg
          · rw [e5, mj]; simp only [intOf]; omega
       · skip
         refine wp_seq ?_
         refine wp_seq ?_
         refine wp_region_lit ?_
         have hE := Env.refl a40 [40, 41, 42, 43, 44, 45, 46]
         refine zm 40 hE k e5 ?_
         intro a74 hE e40 kp
         refine zm 41 hE k e0 ?_
         intro a75 hE e41 kp
         replace e40 := kt kp e40
         refine zm 42 hE k e4 ?_
         intro a76 hE e42 kp
         replace e40 := kt kp e40; replace e41 := kt kp e41
         apply Z08 43 hE k rfl rfl rfl rfl
         case h =>
          simp [go_sem, ↓IntWalk.iteOmega, ev e41, ev e42]
          with_reducible rfl
         intro a77 hE e43 kp
         replace e40 := kt kp e40
         apply Z08 44 hE k rfl rfl rfl rfl
         case h =>
          simp [go_sem, ↓IntWalk.iteOmega, ev e43, hc _ O.below]
          with_reducible rfl
         intro a78 hE e44 kp
         replace e40 := kt kp e40
         refine sd 45 hE k (Z0g Tryd.underlying36 rfl e44) ?_
         intro a79 hE e45 kp
         replace e40 := kt kp e40
         refine sd 46 hE k (Z05 (Z0c rfl e40 e45) (decide_eq_false (by omega))) ?_
         intro a80 hE e46 kp
         refine wpList_nil ?_
         replace e0 := hE.g e0; replace e4 := hE.g e4; replace e5 := hE.g e5
         replace k := k.env hE
         clear hE
         refine Z01 ?_
         refine Z0b e46 rfl ?_
         refine wp_exit ?_
         refine Z0f ?_
         refine Z0f ?_
         refine Z0l ?_
         refine Z0i ?_
         refine Z01 ?_
         refine wp_region_lit ?_
         have hE := Env.refl a80 [20, 21, 4]
         refine sd 20 hE k (Z02 rfl e4) ?_
         intro a81 hE e20 kp
         replace e4 := kt kp e4
         refine sd 21 hE k (Z0z rfl e20 rfl (by omega)) ?_
         intro a82 hE e21 kp
         replace e4 := kt kp e4
         refine sd 4 hE k (Z03 rfl e21) ?_
         intro a83 hE e4 kp
         refine wpList_nil ?_
         replace e0 := hE.g e0
         replace k := k.env hE
         clear hE e5 e46
         refine Z01 ?_
         rw [List.take_of_length_le (by omega)] at hal2
         refine ⟨⟨k, e0, i + 1, e4, by omega, fun u hu => ?_, O⟩, ?_⟩
         · rw [List.take_add_one, hT] at hu; rcases List.mem_append.1 hu with hu | hu
           · exact hall u hu
           · simp at hu; rw [hu, hhd]; exact ⟨p1, by omega, hal2⟩
         · rw [e4, mi]; simp only [intOf]; omega
   · skip
     rw [List.take_of_length_le (by omega)] at hall
     have htab := Z8a (by omega) hall
     have hrx : rtxt X = textL X := if_pos htab
     obtain ⟨m, hm⟩ : ∃ m, (X.headD []).length = m := ⟨_, rfl⟩
     rw [hm] at hall
     have hWb : ∀ k, colW X k ≤ 2000 := fun k => Z6i k (fun T hT => by
      by_cases hk : k < T.length
      · have e : T.getD k [] = T[k] := by simp [List.getD, hk]
        rw [e]
        have h1 := Z1q T[k].length T[k] (Nat.le_refl _)
        have h2 := (hs T hT).2 T[k] (List.getElem_mem hk)
        omega
      · have e : T.getD k [] = [] := by simp [List.getD, List.getElem?_eq_none (show T.length ≤ k by omega)]
        rw [e]
        exact Nat.zero_le _)
     clear hi mi

     refine wp_seq ?_
     refine wp_seq ?_
     refine wp_region_lit ?_
     have hE := Env.refl a15 [16, 17, 18, 19]
     refine zm 16 hE k e4 ?_
     intro a84 hE e16 kp
     refine zm 17 hE k e0 ?_
     intro a85 hE e17 kp
     replace e16 := kt kp e16
     refine sd 18 hE k (Z0g Tryd.underlying22 rfl e17) ?_
     intro a86 hE e18 kp
     replace e16 := kt kp e16
     refine sd 19 hE k (Z05 (Z0c rfl e16 e18) (decide_eq_false (by omega))) ?_
     intro a87 hE e19 kp
     refine wpList_nil ?_
     replace e0 := hE.g e0; replace e4 := hE.g e4
     replace k := k.env hE
     clear hE
     refine Z01 ?_
     refine Z0b e19 rfl ?_
     refine wp_exit ?_
     refine Z0f ?_
     refine Z0f ?_
     refine Z0l ?_
     refine Z01 (wp_seq ?_)
     refine wp_region_lit ?_
     have hE := Env.refl a87 [6]
     refine sd 6 hE k (Z03 rfl rfl) ?_
     intro a88 hE e6 kp
     refine wpList_nil ?_
     replace e0 := hE.g e0
     replace k := k.env hE
     clear hE e4 e19
     refine Z01 (wp_seq ?_)
     refine wp_seq ?_
     refine wp_region_lit ?_
     have hE := Env.refl a88 [7]
     refine sd 7 hE k (Z03 rfl rfl) ?_
     intro a89 hE e7 kp
     refine wpList_nil ?_
     replace e0 := hE.g e0; replace e6 := hE.g e6
     replace k := k.env hE
     clear hE
     refine Z01 ?_
     refine wp_block ?_
     refine wp_loop (fun a w => Fr 138 a ∧ a.eval (.tmp 0) = .slice A X.length ca ∧ ∃ (i : Nat), a.eval (.tmp 6) = .string (sB (txP X i)) ∧ a.eval (.tmp 7) = .int .i64 ↑i ∧ i ≤ X.length ∧ (txP X i).length ≤ i * 1000000 ∧ OwnT W0.heap.size W0 [] w) (fun a w => X.length - (intOf (a.eval (.tmp 7))).toNat) ?_ ?_
     · exact ⟨k, e0, 0, e6, e7, Nat.zero_le _, Nat.zero_le _, O⟩
     intro a90 w91 hK
     clear k e0
     obtain ⟨k, e0, h_⟩ := hK
     clear O e6 e7
     obtain ⟨i, e6, e7, hi, htl, O⟩ := h_
     have mi := e7

     by_cases hlt : i < X.length
     · skip
       have hzI : (i : Int) < (X.length : Int) := by omega
       obtain ⟨T, hT⟩ : ∃ T, X[i]? = some T := ⟨_, List.getElem?_eq_getElem hlt⟩
       obtain ⟨b, o, hA, hsp⟩ := h.spot hT
       obtain ⟨Aj, cj, hr, hc⟩ := hsp i T hT
       have hmem := List.mem_of_getElem? hT
       obtain ⟨hTm, hT1, -⟩ := hall T hmem
       have hsl := (hs T hmem).2
       have hln := fun k => lnP_len hWb (T := T) (fun s h => Nat.le_trans (hsl s h) (by decide)) k
       have hln2 : ∀ k, (lnP (colW X) T k).length ≤ 400300 := fun k => Nat.le_trans (hln k) (by have : T.length * (2 * 2000 + 3) ≤ 100 * (2 * 2000 + 3) := Nat.mul_le_mul_right _ hT1; omega)
       clear hln
       subst hA

       refine wp_seq ?_
       refine wp_seq ?_
       refine wp_region_lit ?_
       have hE := Env.refl a90 [58, 59, 60, 61]
       refine zm 58 hE k e7 ?_
       intro a92 hE e58 kp
       refine zm 59 hE k e0 ?_
       intro a93 hE e59 kp
       replace e58 := kt kp e58
       refine sd 60 hE k (Z0g Tryd.underlying22 rfl e59) ?_
       intro a94 hE e60 kp
       replace e58 := kt kp e58
       refine sd 61 hE k (Z05 (Z0c rfl e58 e60) (decide_eq_true (by omega))) ?_
       intro a95 hE e61 kp
       refine wpList_nil ?_
       replace e0 := hE.g e0; replace e6 := hE.g e6; replace e7 := hE.g e7
       replace k := k.env hE
       clear hE
       refine Z01 ?_
       refine Z09 e61 rfl ?_
       refine wp_skip ?_
       refine Z01 (wp_seq ?_)
       refine wp_block ?_
       refine wp_seq ?_
       refine wp_region_lit ?_
       have hE := Env.refl a95 [8]
       refine sd 8 hE k (Z03 rfl rfl) ?_
       intro a96 hE e8 kp
       refine wpList_nil ?_
       replace e0 := hE.g e0; replace e6 := hE.g e6; replace e7 := hE.g e7
       replace k := k.env hE
       clear hE e61
       refine Z01 (wp_seq ?_)
       refine wp_seq ?_
       refine wp_region_lit ?_
       have hE := Env.refl a96 [9]
       refine sd 9 hE k (Z03 rfl rfl) ?_
       intro a97 hE e9 kp
       refine wpList_nil ?_
       replace e0 := hE.g e0; replace e6 := hE.g e6; replace e7 := hE.g e7; replace e8 := hE.g e8
       replace k := k.env hE
       clear hE
       refine Z01 ?_
       refine wp_block ?_
       refine wp_loop (fun a w => Fr 138 a ∧ a.eval (.tmp 0) = .slice (some ⟨b, o, none⟩) X.length ca ∧ a.eval (.tmp 6) = .string (sB (txP X i)) ∧ a.eval (.tmp 7) = .int .i64 ↑i ∧ ∃ (k : Nat), a.eval (.tmp 8) = .string (sB (lnP (colW X) T k)) ∧ a.eval (.tmp 9) = .int .i64 ↑k ∧ k ≤ T.length ∧ OwnT W0.heap.size W0 [] w) (fun a w => T.length - (intOf (a.eval (.tmp 9))).toNat) ?_ ?_
       · exact ⟨k, e0, e6, e7, 0, e8, e9, Nat.zero_le _, O⟩
       intro a98 w99 hC
       clear k e0 e6 e7
       obtain ⟨k, e0, e6, e7, h_⟩ := hC
       clear O e8 e9
       obtain ⟨z, e8, e9, hz, O⟩ := h_
       have mz := e9
       have hlz := hln2 z

       by_cases hlj : z < T.length
       · skip
         obtain ⟨s, hs_⟩ : ∃ s, T[z]? = some s := ⟨_, List.getElem?_eq_getElem hlj⟩
         obtain ⟨b2, o2, hA2, hsp2⟩ := hr.spot hs_
         have hss := hsl s (List.mem_of_getElem? hs_)
         have hws := Z1q s.length s (Nat.le_refl _)
         have hwc : widthL s ≤ colW X z := by have := Z6j hmem z; rwa [List.getD, hs_] at this
         have hwz := hWb z
         have hls := Z77 (W := colW X) hs_
         subst hA2

         refine wp_seq ?_
         refine wp_seq ?_
         refine wp_region_lit ?_
         have hE := Env.refl a98 [64, 65, 66, 67, 68, 69, 70]
         refine zm 64 hE k e9 ?_
         intro a100 hE e64 kp
         refine zm 65 hE k e0 ?_
         intro a101 hE e65 kp
         replace e64 := kt kp e64
         refine zm 66 hE k e7 ?_
         intro a102 hE e66 kp
         replace e64 := kt kp e64; replace e65 := kt kp e65
         apply Z08 67 hE k rfl rfl rfl rfl
         case h =>
          simp [go_sem, ↓IntWalk.iteOmega, ev e65, ev e66]
          with_reducible rfl
         intro a103 hE e67 kp
         replace e64 := kt kp e64
         apply Z08 68 hE k rfl rfl rfl rfl
         case h =>
          simp [go_sem, ↓IntWalk.iteOmega, ev e67, hc _ O.below]
          with_reducible rfl
         intro a104 hE e68 kp
         replace e64 := kt kp e64
         refine sd 69 hE k (Z0g Tryd.underlying36 rfl e68) ?_
         intro a105 hE e69 kp
         replace e64 := kt kp e64
         refine sd 70 hE k (Z05 (Z0c rfl e64 e69) (decide_eq_true (by omega))) ?_
         intro a106 hE e70 kp
         refine wpList_nil ?_
         replace e0 := hE.g e0; replace e6 := hE.g e6; replace e7 := hE.g e7; replace e8 := hE.g e8; replace e9 := hE.g e9
         replace k := k.env hE
         clear hE
         refine Z01 ?_
         refine Z09 e70 rfl ?_
         refine wp_skip ?_
         refine Z01 (wp_seq ?_)
         refine wp_block ?_
         refine wp_seq ?_
         refine wp_region_lit ?_
         have hE := Env.refl a106 [10]
         refine sd 10 hE k (Z03 rfl rfl) ?_
         intro a107 hE e10 kp
         refine wpList_nil ?_
         replace e0 := hE.g e0; replace e6 := hE.g e6; replace e7 := hE.g e7; replace e8 := hE.g e8; replace e9 := hE.g e9
         replace k := k.env hE
         clear hE e70
         refine Z01 (wp_seq ?_)
         refine wp_seq ?_
         refine wp_region_lit ?_
         have hE := Env.refl a107 [11]
         refine sd 11 hE k (Z03 rfl rfl) ?_
         intro a108 hE e11 kp
         refine wpList_nil ?_
         replace e0 := hE.g e0; replace e6 := hE.g e6; replace e7 := hE.g e7; replace e8 := hE.g e8; replace e9 := hE.g e9; replace e10 := hE.g e10
         replace k := k.env hE
         clear hE
         refine Z01 ?_
         refine wp_block ?_
         refine wp_loop (fun a w => Fr 138 a ∧ a.eval (.tmp 0) = .slice (some ⟨b, o, none⟩) X.length ca ∧ a.eval (.tmp 6) = .string (sB (txP X i)) ∧ a.eval (.tmp 7) = .int .i64 ↑i ∧ a.eval (.tmp 8) = .string (sB (lnP (colW X) T z)) ∧ a.eval (.tmp 9) = .int .i64 ↑z ∧ ∃ (j : Nat), a.eval (.tmp 10) = .int .i64 (↑(colW (X.take j) z)) ∧ a.eval (.tmp 11) = .int .i64 ↑j ∧ j ≤ X.length ∧ OwnT W0.heap.size W0 [] w) (fun a w => X.length - (intOf (a.eval (.tmp 11))).toNat) ?_ ?_
         · exact ⟨k, e0, e6, e7, e8, e9, 0, e10, e11, Nat.zero_le _, O⟩
         intro a109 w110 hW
         clear k e0 e6 e7 e8 e9
         obtain ⟨k, e0, e6, e7, e8, e9, h_⟩ := hW
         clear O e10 e11
         obtain ⟨j, e10, e11, hj, O⟩ := h_
         have mj := e11

         by_cases hlw : j < X.length
         · skip
           have hzJ : (j : Int) < (X.length : Int) := by omega
           obtain ⟨U, hU⟩ : ∃ T, X[j]? = some T := ⟨_, List.getElem?_eq_getElem hlw⟩
           have hUm := List.mem_of_getElem? hU
           obtain ⟨hUl, -, -⟩ := hall U hUm
           obtain ⟨u, hu⟩ : ∃ s, U[z]? = some s := ⟨_, List.getElem?_eq_getElem (by omega)⟩
           obtain ⟨Au, cu, hru, hcu⟩ := hsp j U hU
           obtain ⟨b3, o3, hA3, hsp3⟩ := hru.spot hu
           have hul := (hs U hUm).2 u (List.mem_of_getElem? hu)
           have hcs := Z4u hU hu
           subst hA3

           refine wp_seq ?_
           refine wp_seq ?_
           refine wp_region_lit ?_
           have hE := Env.refl a109 [73, 74, 75, 76]
           refine zm 73 hE k e11 ?_
           intro a111 hE e73 kp
           refine zm 74 hE k e0 ?_
           intro a112 hE e74 kp
           replace e73 := kt kp e73
           refine sd 75 hE k (Z0g Tryd.underlying22 rfl e74) ?_
           intro a113 hE e75 kp
           replace e73 := kt kp e73
           refine sd 76 hE k (Z05 (Z0c rfl e73 e75) (decide_eq_true (by omega))) ?_
           intro a114 hE e76 kp
           refine wpList_nil ?_
           replace e0 := hE.g e0; replace e6 := hE.g e6; replace e7 := hE.g e7; replace e8 := hE.g e8; replace e9 := hE.g e9; replace e10 := hE.g e10; replace e11 := hE.g e11
           replace k := k.env hE
           clear hE
           refine Z01 ?_
           refine Z09 e76 rfl ?_
           refine wp_skip ?_
           refine Z01 (wp_seq ?_)
           refine wp_block ?_
           refine wp_region_lit ?_
           have hE := Env.refl a114 [79, 80, 81, 82, 83, 84, 85, 86, 87, 88, 10]
           refine sd 79 hE k (Z02 rfl e10) ?_
           intro a115 hE e79 kp
           replace e10 := kt kp e10
           refine zm 80 hE k e0 ?_
           intro a116 hE e80 kp
           replace e10 := kt kp e10; replace e79 := kt kp e79
           refine zm 81 hE k e11 ?_
           intro a117 hE e81 kp
           replace e10 := kt kp e10; replace e79 := kt kp e79; replace e80 := kt kp e80
           apply Z08 82 hE k rfl rfl rfl rfl
           case h =>
            simp [go_sem, ↓IntWalk.iteOmega, ev e80, ev e81]
            with_reducible rfl
           intro a118 hE e82 kp
           replace e10 := kt kp e10; replace e79 := kt kp e79
           apply Z08 83 hE k rfl rfl rfl rfl
           case h =>
            simp [go_sem, ↓IntWalk.iteOmega, ev e82, hcu _ O.below]
            with_reducible rfl
           intro a119 hE e83 kp
           replace e10 := kt kp e10; replace e79 := kt kp e79
           refine zm 84 hE k e9 ?_
           intro a120 hE e84 kp
           replace e10 := kt kp e10; replace e79 := kt kp e79; replace e83 := kt kp e83
           apply Z08 85 hE k rfl rfl rfl rfl
           case h =>
            simp [go_sem, ↓IntWalk.iteOmega, ev e83, ev e84]
            with_reducible rfl
           intro a121 hE e85 kp
           replace e10 := kt kp e10; replace e79 := kt kp e79
           apply Z08 86 hE k rfl rfl rfl rfl
           case h =>
            simp [go_sem, ↓IntWalk.iteOmega, ev e85, hsp3 _ O.below z u hu]
            with_reducible rfl
           intro a122 hE e86 kp
           replace e10 := kt kp e10; replace e79 := kt kp e79
           apply Z0d 87 hE k rfl (by rfl) (by rfl) rfl
           case h =>
            simp [go_sem, ↓IntWalk.iteOmega, ev e86]
            with_reducible exact ⟨rfl, rfl⟩
           case hc => exact Z1x u _ (by omega)
           rintro e w124 ⟨rfl, RE⟩
           replace O := OwnT.ext O RE
           refine ⟨_, rfl, ?_⟩
           intro a123 hE e87 kp
           replace e10 := kt kp e10; replace e79 := kt kp e79
           refine sd 88 hE k (Z6n rfl e79 e87) ?_
           intro a125 hE e88 kp
           replace e10 := kt kp e10
           replace e88 := e88.trans (Z0q (show max (colW (X.take j) z : Int) (widthL u : Int) = ((colW (X.take (j + 1)) z : Nat) : Int) by omega))
           refine sd 10 hE k (Z03 rfl e88) ?_
           intro a126 hE e10 kp
           refine wpList_nil ?_
           replace e0 := hE.g e0; replace e6 := hE.g e6; replace e7 := hE.g e7; replace e8 := hE.g e8; replace e9 := hE.g e9; replace e11 := hE.g e11
           replace k := k.env hE
           clear hE e76
           refine Z0i ?_
           refine Z01 ?_
           refine wp_region_lit ?_
           have hE := Env.refl a126 [77, 78, 11]
           refine sd 77 hE k (Z02 rfl e11) ?_
           intro a127 hE e77 kp
           replace e11 := kt kp e11
           refine sd 78 hE k (Z0z rfl e77 rfl (by omega)) ?_
           intro a128 hE e78 kp
           replace e11 := kt kp e11
           refine sd 11 hE k (Z03 rfl e78) ?_
           intro a129 hE e11 kp
           refine wpList_nil ?_
           replace e0 := hE.g e0; replace e6 := hE.g e6; replace e7 := hE.g e7; replace e8 := hE.g e8; replace e9 := hE.g e9; replace e10 := hE.g e10
           replace k := k.env hE
           clear hE
           refine Z01 ?_
           refine ⟨⟨k, e0, e6, e7, e8, e9, j + 1, e10, e11, by omega, O⟩, ?_⟩
           rw [e11, mj]; simp only [intOf]; omega
         · have hzJ : ¬ (j : Int) < (X.length : Int) := by omega
           rw [List.take_of_length_le (by omega)] at e10
           refine wp_seq ?_
           refine wp_seq ?_
           refine wp_region_lit ?_
           have hE := Env.refl a109 [73, 74, 75, 76]
           refine zm 73 hE k e11 ?_
           intro a130 hE e73 kp
           refine zm 74 hE k e0 ?_
           intro a131 hE e74 kp
           replace e73 := kt kp e73
           refine sd 75 hE k (Z0g Tryd.underlying22 rfl e74) ?_
           intro a132 hE e75 kp
           replace e73 := kt kp e73
           refine sd 76 hE k (Z05 (Z0c rfl e73 e75) (decide_eq_false (by omega))) ?_
           intro a133 hE e76 kp
           refine wpList_nil ?_
           replace e0 := hE.g e0; replace e6 := hE.g e6; replace e7 := hE.g e7; replace e8 := hE.g e8; replace e9 := hE.g e9; replace e10 := hE.g e10; replace e11 := hE.g e11
           replace k := k.env hE
           clear hE
           refine Z01 ?_
           refine Z0b e76 rfl ?_
           refine wp_exit ?_
           refine Z0f ?_
           refine Z0f ?_
           refine Z0l ?_
           refine Z01 ?_
           refine Z5e (fun a w => Fr 138 a ∧ a.eval (.tmp 0) = .slice (some ⟨b, o, none⟩) X.length ca ∧ a.eval (.tmp 6) = .string (sB (txP X i)) ∧ a.eval (.tmp 7) = .int .i64 ↑i ∧ a.eval (.tmp 9) = .int .i64 ↑z ∧ a.eval (.tmp 10) = .int .i64 (↑(colW X z)) ∧ ∃ (Q : Tx), a.eval (.tmp 8) = .string (sB Q) ∧ Q = lnP (colW X) T z ++ (if z = 0 then [] else bar) ∧ OwnT W0.heap.size W0 [] w) ?_ ?_
           · skip
             by_cases z0 : z = 0
             · skip
               refine wp_seq ?_
               refine wp_region_lit ?_
               have hE := Env.refl a133 [89, 90]
               refine zm 89 hE k e9 ?_
               intro a134 hE e89 kp
               refine sd 90 hE k (Z05 (Z0w rfl e89 rfl) (decide_eq_false (by omega))) ?_
               intro a135 hE e90 kp
               refine wpList_nil ?_
               replace e0 := hE.g e0; replace e6 := hE.g e6; replace e7 := hE.g e7; replace e8 := hE.g e8; replace e9 := hE.g e9; replace e10 := hE.g e10
               replace k := k.env hE
               clear hE e11 e76
               refine Z01 ?_
               refine Z0b e90 rfl ?_
               refine wp_skip ?_
               refine Z01 ?_
               exact ⟨k, e0, e6, e7, e9, e10, _, e8, by rw [if_pos z0, List.append_nil], O⟩
             · skip
               refine wp_seq ?_
               refine wp_region_lit ?_
               have hE := Env.refl a133 [89, 90]
               refine zm 89 hE k e9 ?_
               intro a136 hE e89 kp
               refine sd 90 hE k (Z05 (Z0w rfl e89 rfl) (decide_eq_true (by omega))) ?_
               intro a137 hE e90 kp
               refine wpList_nil ?_
               replace e0 := hE.g e0; replace e6 := hE.g e6; replace e7 := hE.g e7; replace e8 := hE.g e8; replace e9 := hE.g e9; replace e10 := hE.g e10
               replace k := k.env hE
               clear hE e11 e76
               refine Z01 ?_
               refine Z09 e90 rfl ?_
               refine wp_region_lit ?_
               have hE := Env.refl a137 [91, 92, 8]
               refine sd 91 hE k (Z02 rfl e8) ?_
               intro a138 hE e91 kp
               replace e8 := kt kp e8
               refine sd 92 hE k (Z2b (l := lnP (colW X) T z) (m := [226, 148, 130]) rfl e91 rfl (by simp only [List.length_cons, List.length_nil]; omega)) ?_
               intro a139 hE e92 kp
               replace e8 := kt kp e8
               refine sd 8 hE k (Z03 rfl e92) ?_
               intro a140 hE e8 kp
               refine wpList_nil ?_
               replace e0 := hE.g e0; replace e6 := hE.g e6; replace e7 := hE.g e7; replace e9 := hE.g e9; replace e10 := hE.g e10
               replace k := k.env hE
               clear hE e90
               refine Z01 ?_
               exact ⟨k, e0, e6, e7, e9, e10, _, e8, by rw [if_neg z0], O⟩
           · clear k e0 e6 e7 e8 e9 e10 e11 e76 O
             intro a141 w142 h_
             obtain ⟨k, e0, e6, e7, e9, e10, Q, e8, hQ, O⟩ := h_
             have hQl : Q.length ≤ 400303 := by
              rw [hQ, List.length_append]
              have : (if z = 0 then ([] : Tx) else bar).length ≤ 3 := by split <;> decide
              omega
             rw [← hQ] at hls

             refine wp_seq ?_
             refine wp_region_lit ?_
             have hE := Env.refl a141 [93, 94, 95, 96, 97, 98, 99, 100, 101, 8]
             refine sd 93 hE k (Z02 rfl e8) ?_
             intro a143 hE e93 kp
             replace e8 := kt kp e8
             refine zm 94 hE k e0 ?_
             intro a144 hE e94 kp
             replace e8 := kt kp e8; replace e93 := kt kp e93
             refine zm 95 hE k e7 ?_
             intro a145 hE e95 kp
             replace e8 := kt kp e8; replace e93 := kt kp e93; replace e94 := kt kp e94
             apply Z08 96 hE k rfl rfl rfl rfl
             case h =>
              simp [go_sem, ↓IntWalk.iteOmega, ev e94, ev e95]
              with_reducible rfl
             intro a146 hE e96 kp
             replace e8 := kt kp e8; replace e93 := kt kp e93
             apply Z08 97 hE k rfl rfl rfl rfl
             case h =>
              simp [go_sem, ↓IntWalk.iteOmega, ev e96, hc _ O.below]
              with_reducible rfl
             intro a147 hE e97 kp
             replace e8 := kt kp e8; replace e93 := kt kp e93
             refine zm 98 hE k e9 ?_
             intro a148 hE e98 kp
             replace e8 := kt kp e8; replace e93 := kt kp e93; replace e97 := kt kp e97
             apply Z08 99 hE k rfl rfl rfl rfl
             case h =>
              simp [go_sem, ↓IntWalk.iteOmega, ev e97, ev e98]
              with_reducible rfl
             intro a149 hE e99 kp
             replace e8 := kt kp e8; replace e93 := kt kp e93
             apply Z08 100 hE k rfl rfl rfl rfl
             case h =>
              simp [go_sem, ↓IntWalk.iteOmega, ev e99, hsp2 _ O.below z s hs_]
              with_reducible rfl
             intro a150 hE e100 kp
             replace e8 := kt kp e8; replace e93 := kt kp e93
             refine sd 101 hE k (Z2b (l := Q) (m := s) rfl e93 e100 (by omega)) ?_
             intro a151 hE e101 kp
             replace e8 := kt kp e8
             refine sd 8 hE k (Z03 rfl e101) ?_
             intro a152 hE e8 kp
             refine wpList_nil ?_
             replace e0 := hE.g e0; replace e6 := hE.g e6; replace e7 := hE.g e7; replace e9 := hE.g e9; replace e10 := hE.g e10
             replace k := k.env hE
             clear hE
             refine Z01 (wp_seq ?_)
             refine wp_region_lit ?_
             have hE := Env.refl a152 [102, 103, 104, 105, 106, 107, 108, 109, 12]
             refine zm 102 hE k e0 ?_
             intro a153 hE e102 kp
             refine zm 103 hE k e7 ?_
             intro a154 hE e103 kp
             replace e102 := kt kp e102
             apply Z08 104 hE k rfl rfl rfl rfl
             case h =>
              simp [go_sem, ↓IntWalk.iteOmega, ev e102, ev e103]
              with_reducible rfl
             intro a155 hE e104 kp
             apply Z08 105 hE k rfl rfl rfl rfl
             case h =>
              simp [go_sem, ↓IntWalk.iteOmega, ev e104, hc _ O.below]
              with_reducible rfl
             intro a156 hE e105 kp
             refine zm 106 hE k e9 ?_
             intro a157 hE e106 kp
             replace e105 := kt kp e105
             apply Z08 107 hE k rfl rfl rfl rfl
             case h =>
              simp [go_sem, ↓IntWalk.iteOmega, ev e105, ev e106]
              with_reducible rfl
             intro a158 hE e107 kp
             apply Z08 108 hE k rfl rfl rfl rfl
             case h =>
              simp [go_sem, ↓IntWalk.iteOmega, ev e107, hsp2 _ O.below z s hs_]
              with_reducible rfl
             intro a159 hE e108 kp
             apply Z0d 109 hE k rfl (by rfl) (by rfl) rfl
             case h =>
              simp [go_sem, ↓IntWalk.iteOmega, ev e108]
              with_reducible exact ⟨rfl, rfl⟩
             case hc => exact Z1x s _ (by omega)
             rintro e w161 ⟨rfl, RE⟩
             replace O := OwnT.ext O RE
             refine ⟨_, rfl, ?_⟩
             intro a160 hE e109 kp
             refine sd 12 hE k (Z03 rfl e109) ?_
             intro a162 hE e12 kp
             refine wpList_nil ?_
             replace e0 := hE.g e0; replace e6 := hE.g e6; replace e7 := hE.g e7; replace e8 := hE.g e8; replace e9 := hE.g e9; replace e10 := hE.g e10
             replace k := k.env hE
             clear hE
             refine Z01 ?_
             refine wp_block ?_
             refine wp_loop (fun a w => Fr 138 a ∧ a.eval (.tmp 0) = .slice (some ⟨b, o, none⟩) X.length ca ∧ a.eval (.tmp 6) = .string (sB (txP X i)) ∧ a.eval (.tmp 7) = .int .i64 ↑i ∧ a.eval (.tmp 9) = .int .i64 ↑z ∧ a.eval (.tmp 10) = .int .i64 (↑(colW X z)) ∧ ∃ (y : Nat), a.eval (.tmp 8) = .string (sB (Q ++ s ++ List.replicate y 32)) ∧ a.eval (.tmp 12) = .int .i64 (↑(widthL s + y)) ∧ widthL s + y ≤ colW X z ∧ OwnT W0.heap.size W0 [] w) (fun a w => colW X z - (intOf (a.eval (.tmp 12))).toNat) ?_ ?_
             · exact ⟨k, e0, e6, e7, e9, e10, 0, e8.trans (by rw [List.replicate_zero, List.append_nil]), e12, hwc, O⟩
             intro a163 w164 hY
             clear k e0 e6 e7 e9 e10
             obtain ⟨k, e0, e6, e7, e9, e10, h_⟩ := hY
             clear O e8 e12
             obtain ⟨y, e8, e12, hy, O⟩ := h_
             have my := e12

             by_cases hly : widthL s + y < colW X z
             · skip
               refine wp_seq ?_
               refine wp_seq ?_
               refine wp_region_lit ?_
               have hE := Env.refl a163 [110, 111, 112]
               refine zm 110 hE k e12 ?_
               intro a165 hE e110 kp
               refine zm 111 hE k e10 ?_
               intro a166 hE e111 kp
               replace e110 := kt kp e110
               refine sd 112 hE k (Z05 (Z0c rfl e110 e111) (decide_eq_true (by omega))) ?_
               intro a167 hE e112 kp
               refine wpList_nil ?_
               replace e0 := hE.g e0; replace e6 := hE.g e6; replace e7 := hE.g e7; replace e8 := hE.g e8; replace e9 := hE.g e9; replace e10 := hE.g e10; replace e12 := hE.g e12
               replace k := k.env hE
               clear hE
               refine Z01 ?_
               refine Z09 e112 rfl ?_
               refine wp_skip ?_
               refine Z01 (wp_seq ?_)
               refine wp_block ?_
               refine wp_region_lit ?_
               have hE := Env.refl a167 [115, 116, 8]
               refine sd 115 hE k (Z02 rfl e8) ?_
               intro a168 hE e115 kp
               replace e8 := kt kp e8
               refine sd 116 hE k (Z2b (l := Q ++ s ++ List.replicate y 32) (m := [32]) rfl e115 rfl (by rw [List.length_append, List.length_append, List.length_replicate]; simp only [List.length_cons, List.length_nil]; omega)) ?_
               intro a169 hE e116 kp
               replace e8 := kt kp e8
               replace e116 := e116.trans (congrArg (fun z => Value.string (sB z)) (sp_add (Q ++ s) y))
               refine sd 8 hE k (Z03 rfl e116) ?_
               intro a170 hE e8 kp
               refine wpList_nil ?_
               replace e0 := hE.g e0; replace e6 := hE.g e6; replace e7 := hE.g e7; replace e9 := hE.g e9; replace e10 := hE.g e10; replace e12 := hE.g e12
               replace k := k.env hE
               clear hE e112
               refine Z0i ?_
               refine Z01 ?_
               refine wp_region_lit ?_
               have hE := Env.refl a170 [113, 114, 12]
               refine sd 113 hE k (Z02 rfl e12) ?_
               intro a171 hE e113 kp
               replace e12 := kt kp e12
               refine sd 114 hE k (Z0z rfl e113 rfl (by omega)) ?_
               intro a172 hE e114 kp
               replace e12 := kt kp e12
               replace e114 := e114.trans (Z0q (show ((widthL s + y : Nat) : Int) + 1 = ((widthL s + (y + 1) : Nat) : Int) by omega))
               refine sd 12 hE k (Z03 rfl e114) ?_
               intro a173 hE e12 kp
               refine wpList_nil ?_
               replace e0 := hE.g e0; replace e6 := hE.g e6; replace e7 := hE.g e7; replace e8 := hE.g e8; replace e9 := hE.g e9; replace e10 := hE.g e10
               replace k := k.env hE
               clear hE
               refine Z01 ?_
               refine ⟨⟨k, e0, e6, e7, e9, e10, y + 1, e8, e12, by omega, O⟩, ?_⟩
               rw [e12, my]; simp only [intOf]; omega
             · obtain rfl : y = colW X z - widthL s := by omega
               rw [← hls] at e8
               refine wp_seq ?_
               refine wp_seq ?_
               refine wp_region_lit ?_
               have hE := Env.refl a163 [110, 111, 112]
               refine zm 110 hE k e12 ?_
               intro a174 hE e110 kp
               refine zm 111 hE k e10 ?_
               intro a175 hE e111 kp
               replace e110 := kt kp e110
               refine sd 112 hE k (Z05 (Z0c rfl e110 e111) (decide_eq_false (by omega))) ?_
               intro a176 hE e112 kp
               refine wpList_nil ?_
               replace e0 := hE.g e0; replace e6 := hE.g e6; replace e7 := hE.g e7; replace e8 := hE.g e8; replace e9 := hE.g e9; replace e10 := hE.g e10; replace e12 := hE.g e12
               replace k := k.env hE
               clear hE
               refine Z01 ?_
               refine Z0b e112 rfl ?_
               refine wp_exit ?_
               refine Z0f ?_
               refine Z0f ?_
               refine Z0l ?_
               refine Z0i ?_
               refine Z01 ?_
               refine wp_region_lit ?_
               have hE := Env.refl a176 [71, 72, 9]
               refine sd 71 hE k (Z02 rfl e9) ?_
               intro a177 hE e71 kp
               replace e9 := kt kp e9
               refine sd 72 hE k (Z0z rfl e71 rfl (by omega)) ?_
               intro a178 hE e72 kp
               replace e9 := kt kp e9
               replace e72 := e72.trans (Z0q (show (z : Int) + 1 = ((z + 1 : Nat) : Int) by omega))
               refine sd 9 hE k (Z03 rfl e72) ?_
               intro a179 hE e9 kp
               refine wpList_nil ?_
               replace e0 := hE.g e0; replace e6 := hE.g e6; replace e7 := hE.g e7; replace e8 := hE.g e8
               replace k := k.env hE
               clear hE e10 e12 e112
               refine Z01 ?_
               refine ⟨⟨k, e0, e6, e7, z + 1, e8, e9, by omega, O⟩, ?_⟩
               rw [e9, mz]; simp only [intOf]; omega
       · skip
         obtain ⟨L, hL⟩ : ∃ L, lnP (colW X) T z = L := ⟨_, rfl⟩
         have hLn : lineL (colW X) T = Lib.trimRightB L 32 ++ [10] := by rw [← hL]; unfold lineL lnP; rw [List.take_of_length_le (by omega)]
         rw [hL] at e8 hlz
         refine wp_seq ?_
         refine wp_seq ?_
         refine wp_region_lit ?_
         have hE := Env.refl a98 [64, 65, 66, 67, 68, 69, 70]
         refine zm 64 hE k e9 ?_
         intro a180 hE e64 kp
         refine zm 65 hE k e0 ?_
         intro a181 hE e65 kp
         replace e64 := kt kp e64
         refine zm 66 hE k e7 ?_
         intro a182 hE e66 kp
         replace e64 := kt kp e64; replace e65 := kt kp e65
         apply Z08 67 hE k rfl rfl rfl rfl
         case h =>
          simp [go_sem, ↓IntWalk.iteOmega, ev e65, ev e66]
          with_reducible rfl
         intro a183 hE e67 kp
         replace e64 := kt kp e64
         apply Z08 68 hE k rfl rfl rfl rfl
         case h =>
          simp [go_sem, ↓IntWalk.iteOmega, ev e67, hc _ O.below]
          with_reducible rfl
         intro a184 hE e68 kp
         replace e64 := kt kp e64
         refine sd 69 hE k (Z0g Tryd.underlying36 rfl e68) ?_
         intro a185 hE e69 kp
         replace e64 := kt kp e64
         refine sd 70 hE k (Z05 (Z0c rfl e64 e69) (decide_eq_false (by omega))) ?_
         intro a186 hE e70 kp
         refine wpList_nil ?_
         replace e0 := hE.g e0; replace e6 := hE.g e6; replace e7 := hE.g e7; replace e8 := hE.g e8; replace e9 := hE.g e9
         replace k := k.env hE
         clear hE
         refine Z01 ?_
         refine Z0b e70 rfl ?_
         refine wp_exit ?_
         refine Z0f ?_
         refine Z0f ?_
         refine Z0l ?_
         refine Z01 (wp_seq ?_)
         refine wp_block ?_
         refine wp_loop (fun a w => Fr 138 a ∧ a.eval (.tmp 0) = .slice (some ⟨b, o, none⟩) X.length ca ∧ a.eval (.tmp 6) = .string (sB (txP X i)) ∧ a.eval (.tmp 7) = .int .i64 ↑i ∧ ∃ (u : Tx), a.eval (.tmp 8) = .string (sB u) ∧ u.length ≤ L.length ∧ Lib.trimRightB u 32 = Lib.trimRightB L 32 ∧ OwnT W0.heap.size W0 [] w) (fun a w => strLen (a.eval (.tmp 8))) ?_ ?_
         · exact ⟨k, e0, e6, e7, L, e8, Nat.le_refl _, rfl, O⟩
         intro a187 w188 hT_
         clear k e0 e6 e7
         obtain ⟨k, e0, e6, e7, h_⟩ := hT_
         clear O e8
         obtain ⟨u, e8, hul, hut, O⟩ := h_
         have mu := e8

         by_cases u0 : u.length = 0
         · skip
           have hu2 := Z3n (u := u) (.inl (List.eq_nil_of_length_eq_zero u0))
           have htx : txP X i ++ u ++ [10] = txP X (i + 1) := by rw [Z4g hT, hLn, ← hut, hu2, List.append_assoc]
           refine wp_seq ?_
           refine wp_seq ?_
           refine wp_region_lit ?_
           have hE := Env.refl a187 [117, 118, 119, 120, 121, 122, 123, 124, 125, 126, 127]
           refine zm 117 hE k e8 ?_
           intro a189 hE e117 kp
           refine sd 118 hE k (Z0s Tryd.underlying9 rfl e117) ?_
           intro a190 hE e118 kp
           refine sd 119 hE k (Z05 (Z0w rfl e118 rfl) (decide_eq_false (by omega))) ?_
           intro a191 hE e119 kp
           refine sd 120 hE k (Z02 rfl e119) ?_
           intro a192 hE e120 kp
           refine Z04 121 hE k rfl (by rfl) (by rfl) rfl rfl (.inl e120) ?_
           intro a193 hE e121 kp
           replace e120 := kt kp e120
           refine Z04 122 hE k rfl (by rfl) (by rfl) rfl rfl (.inl e120) ?_
           intro a194 hE e122 kp
           replace e120 := kt kp e120; replace e121 := kt kp e121
           refine Z04 123 hE k rfl (by rfl) (by rfl) rfl rfl (.inl e120) ?_
           intro a195 hE e123 kp
           replace e120 := kt kp e120; replace e121 := kt kp e121
           refine Z04 124 hE k rfl (by rfl) (by rfl) rfl rfl (.inl e120) ?_
           intro a196 hE e124 kp
           replace e120 := kt kp e120; replace e121 := kt kp e121
           refine Z04 125 hE k rfl (by rfl) (by rfl) rfl rfl (.inl e120) ?_
           intro a197 hE e125 kp
           replace e120 := kt kp e120
           refine Z04 126 hE k rfl (by rfl) (by rfl) rfl rfl (.inl e120) ?_
           intro a198 hE e126 kp
           replace e120 := kt kp e120
           refine sd 127 hE k (Z06 rfl e120 rfl) ?_
           intro a199 hE e127 kp
           refine wpList_nil ?_
           replace e0 := hE.g e0; replace e6 := hE.g e6; replace e7 := hE.g e7; replace e8 := hE.g e8
           replace k := k.env hE
           clear hE
           refine Z01 ?_
           refine Z0b e127 rfl ?_
           refine wp_exit ?_
           refine Z0f ?_
           refine Z0f ?_
           refine Z0l ?_
           refine Z01 ?_
           refine wp_region_lit ?_
           have hE := Env.refl a199 [133, 134, 135, 136, 6]
           refine sd 133 hE k (Z02 rfl e6) ?_
           intro a200 hE e133 kp
           replace e6 := kt kp e6
           refine zm 134 hE k e8 ?_
           intro a201 hE e134 kp
           replace e6 := kt kp e6; replace e133 := kt kp e133
           refine sd 135 hE k (Z2b (l := txP X i) (m := u) rfl e133 e134 (by omega)) ?_
           intro a202 hE e135 kp
           replace e6 := kt kp e6
           refine sd 136 hE k (Z2b (l := txP X i ++ u) (m := [10]) rfl e135 rfl (by rw [List.length_append]; simp only [List.length_cons, List.length_nil]; omega)) ?_
           intro a203 hE e136 kp
           replace e6 := kt kp e6
           replace e136 := e136.trans (congrArg (fun z => Value.string (sB z)) htx)
           refine sd 6 hE k (Z03 rfl e136) ?_
           intro a204 hE e6 kp
           refine wpList_nil ?_
           replace e0 := hE.g e0; replace e7 := hE.g e7
           replace k := k.env hE
           clear hE e8 e127
           refine Z0i ?_
           refine Z01 ?_
           refine wp_region_lit ?_
           have hE := Env.refl a204 [62, 63, 7]
           refine sd 62 hE k (Z02 rfl e7) ?_
           intro a205 hE e62 kp
           replace e7 := kt kp e7
           refine sd 63 hE k (Z0z rfl e62 rfl (by omega)) ?_
           intro a206 hE e63 kp
           replace e7 := kt kp e7
           replace e63 := e63.trans (Z0q (show (i : Int) + 1 = ((i + 1 : Nat) : Int) by omega))
           refine sd 7 hE k (Z03 rfl e63) ?_
           intro a207 hE e7 kp
           refine wpList_nil ?_
           replace e0 := hE.g e0; replace e6 := hE.g e6
           replace k := k.env hE
           clear hE
           refine Z01 ?_
           refine ⟨⟨k, e0, i + 1, e6, e7, by omega, by rw [← htx, List.length_append, List.length_append]; simp only [List.length_cons, List.length_nil]; omega, O⟩, ?_⟩
           rw [e7, mi]; simp only [intOf]; omega
         · by_cases u1 : u.getD (u.length - 1) 0 = 32
           · have htg := Z89 (by omega) u1
             refine wp_seq ?_
             refine wp_seq ?_
             refine wp_region_lit ?_
             have hE := Env.refl a187 [117, 118, 119, 120, 121, 122, 123, 124, 125, 126, 127]
             refine zm 117 hE k e8 ?_
             intro a208 hE e117 kp
             refine sd 118 hE k (Z0s Tryd.underlying9 rfl e117) ?_
             intro a209 hE e118 kp
             refine sd 119 hE k (Z05 (Z0w rfl e118 rfl) (decide_eq_true (by omega))) ?_
             intro a210 hE e119 kp
             refine sd 120 hE k (Z02 rfl e119) ?_
             intro a211 hE e120 kp
             apply Z00 121 hE k rfl rfl rfl rfl rfl e120
             case h =>
              exact Z02 rfl (hE.g e8)
             intro a212 hE e121 kp
             replace e120 := kt kp e120
             apply Z00 122 hE k rfl rfl rfl rfl rfl e120
             case h =>
              exact Z02 rfl (hE.g e8)
             intro a213 hE e122 kp
             replace e120 := kt kp e120; replace e121 := kt kp e121
             apply Z00 123 hE k rfl rfl rfl rfl rfl e120
             case h =>
              exact Z0s Tryd.underlying9 rfl e122
             intro a214 hE e123 kp
             replace e120 := kt kp e120; replace e121 := kt kp e121
             apply Z00 124 hE k rfl rfl rfl rfl rfl e120
             case h =>
              exact Z3l rfl e123 rfl (by omega)
             intro a215 hE e124 kp
             replace e120 := kt kp e120; replace e121 := kt kp e121
             replace e124 := e124.trans (Z0q (show (u.length : Int) - 1 = ((u.length - 1 : Nat) : Int) by omega))
             apply Z00 125 hE k rfl rfl rfl rfl rfl e120
             case h =>
              exact Z0x (l := u) (j := u.length - 1) Tryd.underlying9 rfl e121 e124 (by omega)
             intro a216 hE e125 kp
             replace e120 := kt kp e120
             apply Z00 126 hE k rfl rfl rfl rfl rfl e120
             case h =>
              exact Z05 (Z0k rfl e125 rfl) (decide_eq_true (by rw [u1]; rfl))
             intro a217 hE e126 kp
             replace e120 := kt kp e120
             refine sd 127 hE k (Z07 rfl e120 e126) ?_
             intro a218 hE e127 kp
             refine wpList_nil ?_
             replace e0 := hE.g e0; replace e6 := hE.g e6; replace e7 := hE.g e7; replace e8 := hE.g e8
             replace k := k.env hE
             clear hE
             refine Z01 ?_
             refine Z09 e127 rfl ?_
             refine wp_skip ?_
             refine Z01 ?_
             refine wp_block ?_
             refine wp_region_lit ?_
             have hE := Env.refl a218 [128, 129, 130, 131, 132, 8]
             refine sd 128 hE k (Z02 rfl e8) ?_
             intro a219 hE e128 kp
             replace e8 := kt kp e8
             refine sd 129 hE k (Z02 rfl e8) ?_
             intro a220 hE e129 kp
             replace e8 := kt kp e8; replace e128 := kt kp e128
             refine sd 130 hE k (Z0s Tryd.underlying9 rfl e129) ?_
             intro a221 hE e130 kp
             replace e8 := kt kp e8; replace e128 := kt kp e128
             refine sd 131 hE k (Z3l rfl e130 rfl (by omega)) ?_
             intro a222 hE e131 kp
             replace e8 := kt kp e8; replace e128 := kt kp e128
             replace e131 := e131.trans (Z0q (show (u.length : Int) - 1 = ((u.length - 1 : Nat) : Int) by omega))
             refine sd 132 hE k (Z3c (l := u) Tryd.underlying9 rfl e128 e131 (u.length - 1) rfl (by omega)) ?_
             intro a223 hE e132 kp
             replace e8 := kt kp e8
             refine sd 8 hE k (Z03 rfl e132) ?_
             intro a224 hE e8 kp
             refine wpList_nil ?_
             replace e0 := hE.g e0; replace e6 := hE.g e6; replace e7 := hE.g e7
             replace k := k.env hE
             clear hE e127
             refine Z0i ?_
             refine Z01 ?_
             refine ⟨⟨k, e0, e6, e7, u.take (u.length - 1), e8, by rw [List.length_take]; omega, by rw [← htg, hut], O⟩, ?_⟩
             rw [e8, mu]; simp only [strLen, Z0p, List.length_take]; omega
           · skip
             have hu2 := Z3n (u := u) (.inr u1)
             have htx : txP X i ++ u ++ [10] = txP X (i + 1) := by rw [Z4g hT, hLn, ← hut, hu2, List.append_assoc]
             refine wp_seq ?_
             refine wp_seq ?_
             refine wp_region_lit ?_
             have hE := Env.refl a187 [117, 118, 119, 120, 121, 122, 123, 124, 125, 126, 127]
             refine zm 117 hE k e8 ?_
             intro a225 hE e117 kp
             refine sd 118 hE k (Z0s Tryd.underlying9 rfl e117) ?_
             intro a226 hE e118 kp
             refine sd 119 hE k (Z05 (Z0w rfl e118 rfl) (decide_eq_true (by omega))) ?_
             intro a227 hE e119 kp
             refine sd 120 hE k (Z02 rfl e119) ?_
             intro a228 hE e120 kp
             apply Z00 121 hE k rfl rfl rfl rfl rfl e120
             case h =>
              exact Z02 rfl (hE.g e8)
             intro a229 hE e121 kp
             replace e120 := kt kp e120
             apply Z00 122 hE k rfl rfl rfl rfl rfl e120
             case h =>
              exact Z02 rfl (hE.g e8)
             intro a230 hE e122 kp
             replace e120 := kt kp e120; replace e121 := kt kp e121
             apply Z00 123 hE k rfl rfl rfl rfl rfl e120
             case h =>
              exact Z0s Tryd.underlying9 rfl e122
             intro a231 hE e123 kp
             replace e120 := kt kp e120; replace e121 := kt kp e121
             apply Z00 124 hE k rfl rfl rfl rfl rfl e120
             case h =>
              exact Z3l rfl e123 rfl (by omega)
             intro a232 hE e124 kp
             replace e120 := kt kp e120; replace e121 := kt kp e121
             replace e124 := e124.trans (Z0q (show (u.length : Int) - 1 = ((u.length - 1 : Nat) : Int) by omega))
             apply Z00 125 hE k rfl rfl rfl rfl rfl e120
             case h =>
              exact Z0x (l := u) (j := u.length - 1) Tryd.underlying9 rfl e121 e124 (by omega)
             intro a233 hE e125 kp
             replace e120 := kt kp e120
             apply Z00 126 hE k rfl rfl rfl rfl rfl e120
             case h =>
              exact Z05 (Z0k rfl e125 rfl) (decide_eq_false (fun h => u1 (Z6t.1 (by rw [h]; rfl))))
             intro a234 hE e126 kp
             replace e120 := kt kp e120
             refine sd 127 hE k (Z07 rfl e120 e126) ?_
             intro a235 hE e127 kp
             refine wpList_nil ?_
             replace e0 := hE.g e0; replace e6 := hE.g e6; replace e7 := hE.g e7; replace e8 := hE.g e8
             replace k := k.env hE
             clear hE
             refine Z01 ?_
             refine Z0b e127 rfl ?_
             refine wp_exit ?_
             refine Z0f ?_
             refine Z0f ?_
             refine Z0l ?_
             refine Z01 ?_
             refine wp_region_lit ?_
             have hE := Env.refl a235 [133, 134, 135, 136, 6]
             refine sd 133 hE k (Z02 rfl e6) ?_
             intro a236 hE e133 kp
             replace e6 := kt kp e6
             refine zm 134 hE k e8 ?_
             intro a237 hE e134 kp
             replace e6 := kt kp e6; replace e133 := kt kp e133
             refine sd 135 hE k (Z2b (l := txP X i) (m := u) rfl e133 e134 (by omega)) ?_
             intro a238 hE e135 kp
             replace e6 := kt kp e6
             refine sd 136 hE k (Z2b (l := txP X i ++ u) (m := [10]) rfl e135 rfl (by rw [List.length_append]; simp only [List.length_cons, List.length_nil]; omega)) ?_
             intro a239 hE e136 kp
             replace e6 := kt kp e6
             replace e136 := e136.trans (congrArg (fun z => Value.string (sB z)) htx)
             refine sd 6 hE k (Z03 rfl e136) ?_
             intro a240 hE e6 kp
             refine wpList_nil ?_
             replace e0 := hE.g e0; replace e7 := hE.g e7
             replace k := k.env hE
             clear hE e8 e127
             refine Z0i ?_
             refine Z01 ?_
             refine wp_region_lit ?_
             have hE := Env.refl a240 [62, 63, 7]
             refine sd 62 hE k (Z02 rfl e7) ?_
             intro a241 hE e62 kp
             replace e7 := kt kp e7
             refine sd 63 hE k (Z0z rfl e62 rfl (by omega)) ?_
             intro a242 hE e63 kp
             replace e7 := kt kp e7
             replace e63 := e63.trans (Z0q (show (i : Int) + 1 = ((i + 1 : Nat) : Int) by omega))
             refine sd 7 hE k (Z03 rfl e63) ?_
             intro a243 hE e7 kp
             refine wpList_nil ?_
             replace e0 := hE.g e0; replace e6 := hE.g e6
             replace k := k.env hE
             clear hE
             refine Z01 ?_
             refine ⟨⟨k, e0, i + 1, e6, e7, by omega, by rw [← htx, List.length_append, List.length_append]; simp only [List.length_cons, List.length_nil]; omega, O⟩, ?_⟩
             rw [e7, mi]; simp only [intOf]; omega
     · have hzI : ¬ (i : Int) < (X.length : Int) := by omega
       rw [Z86 (by omega)] at e6
       refine wp_seq ?_
       refine wp_seq ?_
       refine wp_region_lit ?_
       have hE := Env.refl a90 [58, 59, 60, 61]
       refine zm 58 hE k e7 ?_
       intro a244 hE e58 kp
       refine zm 59 hE k e0 ?_
       intro a245 hE e59 kp
       replace e58 := kt kp e58
       refine sd 60 hE k (Z0g Tryd.underlying22 rfl e59) ?_
       intro a246 hE e60 kp
       replace e58 := kt kp e58
       refine sd 61 hE k (Z05 (Z0c rfl e58 e60) (decide_eq_false (by omega))) ?_
       intro a247 hE e61 kp
       refine wpList_nil ?_
       replace e0 := hE.g e0; replace e6 := hE.g e6; replace e7 := hE.g e7
       replace k := k.env hE
       clear hE
       refine Z01 ?_
       refine Z0b e61 rfl ?_
       refine wp_exit ?_
       refine Z0f ?_
       refine Z0f ?_
       refine Z0l ?_
       refine Z01 (wp_seq ?_)
       refine wp_region_lit ?_
       have hE := Env.refl a247 [137, 2, 3]
       refine zm 137 hE k e6 ?_
       intro a248 hE e137 kp
       refine sd 2 hE k (Z03 rfl e137) ?_
       intro a249 hE e2 kp
       refine sd 3 hE k (Z03 rfl rfl) ?_
       intro a250 hE e3 kp
       replace e2 := kt kp e2
       refine wpList_nil ?_
       replace k := k.env hE
       clear hE e0 e6 e7 e61
       refine Z01 ?_
       refine wp_ret ?_
       refine Z0t rfl k e2 e3 ?_
       exact ⟨by rw [hrx, htab]; first | done | rfl, O.below⟩
end Go.Proofs.YtgdlnfljfiageaaDoor
