/- grids: spans, wide, Width, Fit (printed by XGrB.gen.py). -/
import Derived.Test.YtgdlnfljfiageaaDoorKGridBack08
import Derived.Test.YtgdlnfljfiageaaDoorKGridBack09
namespace Go.Proofs.YtgdlnfljfiageaaDoor
attribute [local simp] BigFrame.eval_const BigFrame.eval_global BigFrame.eval_func
set_option linter.unusedVariables false
set_option linter.unusedSimpArgs false
open Go.RowKit

def spT : List (Nat × Nat × Nat) := [(768, 879, 0), (8203, 8203, 0), (4352, 4447, 2), (11904, 40959, 2), (44032, 55203, 2), (65280, 65376, 2)]
def spA : Array Value := #[.int .i32 768, .int .i32 879, .int .i64 0, .int .i32 8203, .int .i32 8203, .int .i64 0, .int .i32 4352, .int .i32 4447, .int .i64 2, .int .i32 11904, .int .i32 40959, .int .i64 2, .int .i32 44032, .int .i32 55203, .int .i64 2, .int .i32 65280, .int .i32 65376, .int .i64 2]
theorem sp_at : ∀ {i : Nat} {x : Nat × Nat × Nat}, spT[i]? = some x → spA[i * 3]? = some (.int .i32 (x.1 : Nat)) ∧ spA[i * 3 + 1]? = some (.int .i32 (x.2.1 : Nat)) ∧ spA[i * 3 + 2]? = some (.int .i64 (x.2.2 : Nat))
 | 0, x, h | 1, x, h | 2, x, h | 3, x, h | 4, x, h | 5, x, h => by
  simp [spT] at h
  subst h
  exact ⟨rfl, rfl, rfl⟩
 | i + 6, x, h => by simp [spT] at h
theorem sp_in : ∀ {i r : Nat} {x : Nat × Nat × Nat}, spT[i]? = some x → x.1 ≤ r → r ≤ x.2.1 → wideN r = x.2.2 ∧ x.2.2 ≤ 2
 | 0, r, x, h, h1, h2 | 1, r, x, h, h1, h2 | 2, r, x, h, h1, h2 | 3, r, x, h, h1, h2 | 4, r, x, h, h1, h2 | 5, r, x, h, h1, h2 => by
  simp [spT] at h
  subst h
  simp only at h1 h2
  refine ⟨?_, by decide⟩
  unfold wideN
  repeat' split
  all_goals (first | rfl | (exfalso; omega))
 | i + 6, r, x, h, _, _ => by simp [spT] at h
theorem sp_out {r : Nat} (h : ∀ j x, j < 6 → spT[j]? = some x → ¬ (x.1 ≤ r ∧ r ≤ x.2.1)) : wideN r = 1 := by
 have h0 := h 0 _ (by decide) rfl
 have h1 := h 1 _ (by decide) rfl
 have h2 := h 2 _ (by decide) rfl
 have h3 := h 3 _ (by decide) rfl
 have h4 := h 4 _ (by decide) rfl
 have h5 := h 5 _ (by decide) rfl
 simp only at h0 h1 h2 h3 h4 h5
 unfold wideN
 repeat' split
 all_goals (first | rfl | (exfalso; omega))
def iterPos (w : World) (it : Nat) : Nat := match w.heap[it]? with
 | some (.stringIter _ p) => p
 | _ => 0
theorem Z1j {w : World} {it pos : Nat} {s : ByteArray} (h : (tObj it (.stringIter s pos)).holds w) : iterPos w it = pos := by
 unfold iterPos
 rw [show w.heap[it]? = some (.stringIter s pos) from h]
theorem Z3k {H : Nat} {A w : World} {L : List Thing} (l : Tx) (O : OwnT H A L w) : ∃ it w', (∀ (o : Oper) (ρ : Operand → Value) (x : Operand), o.op = .range 9 x → ρ x = .string (sB l) → (execOp ρ o).run Tryd.prog w = .ok (.value (.pointer (some ⟨it, 0, none⟩))) w') ∧ OwnT H A (tObj it (.stringIter (sB l) 0) :: L) w' :=
 ⟨_, _, fun _ _ _ ho hx => Z88 Tryd.underlying9 ho hx, OwnT.newO O (.stringIter (sB l) 0)⟩
theorem Z4l {H : Nat} {A w : World} {L : List Thing} {l : Tx} {it pos r d : Nat} (O : OwnT H A (tObj it (.stringIter (sB l) pos) :: L) w) (hp : pos < l.length) (hd : dec (l.drop pos) = (r, d)) : ∃ w', (∀ (o : Oper) (ρ : Operand → Value) (x : Operand), o.op = .next x true → ρ x = .pointer (some ⟨it, 0, none⟩) → (execOp ρ o).run Tryd.prog w = .ok (.value (.tuple #[.bool true, .int .i64 pos, .int .i32 r])) w') ∧ OwnT H A (tObj it (.stringIter (sB l) (pos + d)) :: L) w' :=
 ⟨_, fun o ρ x ho hx => by
  have h := x_next (ty := o.type) ho hx (show w.heap[it]? = some (.stringIter (sB l) pos) from O.t0) hp
  rw [hd] at h
  exact h, by rw [← show (dec (l.drop pos)).2 = d by rw [hd]]; exact OwnT.putO O _⟩
theorem Z85 {l : Tx} {pos r d : Nat} (hp : pos < l.length) (hd : dec (l.drop pos) = (r, d)) : 1 ≤ d ∧ pos + d ≤ l.length ∧ r ≤ 1114111 := by
 have hne : l.drop pos ≠ [] := by rw [Ne, List.drop_eq_nil_iff]; omega
 have h1 := Z1n hne
 have h2 := Z7r (l.drop pos)
 rw [hd] at h1 h2
 rw [List.length_drop] at h1
 exact ⟨h1.1, by omega, by omega⟩
theorem Z6w {l : Tx} {pos r d : Nat} (hp : pos < l.length) (hd : dec (l.drop pos) = (r, d)) : widthL (l.drop pos) = wideN r + widthL (l.drop (pos + d)) := by
 have hne : l.drop pos ≠ [] := by rw [Ne, List.drop_eq_nil_iff]; omega
 rw [Z2k hne, hd, List.drop_drop]
theorem Z4h {l : Tx} {pos r d : Nat} (hp : pos < l.length) (hd : dec (l.drop pos) = (r, d)) : runesL (l.drop pos) = (r, d) :: runesL (l.drop (pos + d)) := by
 have hne : l.drop pos ≠ [] := by rw [Ne, List.drop_eq_nil_iff]; omega
 rw [Z19 hne, hd, List.drop_drop]
/-- A cut on its way. -/
def CutOn (W : Nat) (l : Tx) (pos n : Nat) : Prop := n ≤ W ∧ cutR W (runesL l) 0 = ((cutR W (runesL (l.drop pos)) n).1 + pos, (cutR W (runesL (l.drop pos)) n).2)
theorem CutOn.start (W : Nat) (l : Tx) : CutOn W l 0 0 := ⟨Nat.zero_le _, rfl⟩
theorem CutOn.step {W : Nat} {l : Tx} {pos n r d : Nat} (h : CutOn W l pos n) (hp : pos < l.length) (hd : dec (l.drop pos) = (r, d)) (hw : ¬ W < n + wideN r) : CutOn W l (pos + d) (n + wideN r) := by
 obtain ⟨h1, h2⟩ := h
 refine ⟨by omega, ?_⟩
 rw [h2, Z4h hp hd, show ∀ X, cutR W ((r, d) :: X) n = if W < n + wideN r then (0, n) else ((cutR W X (n + wideN r)).1 + d, (cutR W X (n + wideN r)).2) from fun _ => rfl, if_neg hw, Nat.add_assoc, Nat.add_comm d pos]
theorem CutOn.stop {W : Nat} {l : Tx} {pos n r d : Nat} (h : CutOn W l pos n) (hp : pos < l.length) (hd : dec (l.drop pos) = (r, d)) (hw : W < n + wideN r) : fitL W l = l.take pos ++ List.replicate (W - n) 32 := by
 unfold fitL
 rw [h.2, Z4h hp hd]
 unfold cutR
 simp only [if_pos hw, Nat.zero_add]
theorem CutOn.end_ {W : Nat} {l : Tx} {pos n : Nat} (h : CutOn W l pos n) (hp : ¬ pos < l.length) (hl : pos ≤ l.length) : fitL W l = l ++ List.replicate (W - n) 32 := by
 unfold fitL
 rw [h.2, List.drop_eq_nil_of_le (by omega), Z5w]
 unfold cutR
 simp only [Nat.zero_add]
 rw [List.take_of_length_le (by omega)]
theorem Z83 : ∀ n : Nat, Lib.repeatL [32] n = List.replicate n (32 : UInt8)
 | 0 => rfl
 | n + 1 => by
  show [32] ++ Lib.repeatL [32] n = _
  rw [Z83 n]
  rfl
theorem sp_l (n : Nat) (W : World) (hn : n ≤ 1000000) : Calls Tryd.prog 25 #[.string (sB [32]), .int .i64 ((n : Nat) : Int)] W fun e w' => e = .returned (.string (sB (List.replicate n 32))) ∧ Ext W w' := by
 have h := Tryd.strings_Repeat (sB [32]) n W (by omega) (by rw [Z0m]; simp only [List.length_cons, List.length_nil]; omega)
 rw [Z5v, Z83] at h
 exact h

set_option maxRecDepth 100000 in
set_option maxHeartbeats 4000000 in
theorem Z5t {H : Nat} {A0 : World} {R : List Thing} (w : World) (O : OwnT H A0 R w) : Calls Tryd.prog 38 #[] w fun e w' => ∃ g, e = .returned (.slice (some ⟨g, 0, none⟩) 6 6) ∧ OwnT H A0 (tBlk g 70 spA :: R) w' := by
 refine Z0k Tryd.func38 rfl 8 rfl (by rfl) ?_
 intro a1 k hargs
 clear hargs
 refine wp_seq ?_
 refine wp_region_lit ?_
 have hE := Env.refl a1 [0]
 refine sd 0 hE k (Z01 rfl rfl) ?_
 intro a2 hE e0 kp
 refine wpList_nil ?_
 replace k := k.env hE
 clear hE e0
 refine Z00 (wp_seq ?_)
 refine wp_region_lit ?_
 have hE := Env.refl a2 [1, 2, 3, 4, 5, 6, 7, 0]
 apply Z05 1 hE k rfl rfl rfl rfl
 case h =>
  simp [go_sem, ↓IntWalk.iteOmega]
  with_reducible rfl
 intro a3 hE e1 kp
 apply Z05 2 hE k rfl rfl rfl rfl
 case h =>
  simp [go_sem, ↓IntWalk.iteOmega]
  with_reducible rfl
 intro a4 hE e2 kp
 replace e1 := kt kp e1
 apply Z05 3 hE k rfl rfl rfl rfl
 case h =>
  simp [go_sem, ↓IntWalk.iteOmega]
  with_reducible rfl
 intro a5 hE e3 kp
 replace e1 := kt kp e1; replace e2 := kt kp e2
 apply Z05 4 hE k rfl rfl rfl rfl
 case h =>
  simp [go_sem, ↓IntWalk.iteOmega]
  with_reducible rfl
 intro a6 hE e4 kp
 replace e1 := kt kp e1; replace e2 := kt kp e2; replace e3 := kt kp e3
 apply Z05 5 hE k rfl rfl rfl rfl
 case h =>
  simp [go_sem, ↓IntWalk.iteOmega]
  with_reducible rfl
 intro a7 hE e5 kp
 replace e1 := kt kp e1; replace e2 := kt kp e2; replace e3 := kt kp e3; replace e4 := kt kp e4
 apply Z05 6 hE k rfl rfl rfl rfl
 case h =>
  simp [go_sem, ↓IntWalk.iteOmega]
  with_reducible rfl
 intro a8 hE e6 kp
 replace e1 := kt kp e1; replace e2 := kt kp e2; replace e3 := kt kp e3; replace e4 := kt kp e4; replace e5 := kt kp e5
 refine Z16 (m := 6) (c := 6) O (cs := #[.int .i32 768, .int .i32 879, .int .i64 0, .int .i32 8203, .int .i32 8203, .int .i64 0, .int .i32 4352, .int .i32 4447, .int .i64 2, .int .i32 11904, .int .i32 40959, .int .i64 2, .int .i32 44032, .int .i32 55203, .int .i64 2, .int .i32 65280, .int .i32 65376, .int .i64 2]) (t := 70) 7 hE k rfl (by rfl) (by rfl) rfl (by simp [go_sem, ↓IntWalk.iteOmega, ev e1, ev e2, ev e3, ev e4, ev e5, ev e6]) ?_
 clear O
 intro g a9 w10 O hE e7 kp
 refine sd 0 hE k (Z01 rfl e7) ?_
 intro a11 hE e0 kp
 refine wpList_nil ?_
 replace k := k.env hE
 clear hE
 refine Z00 ?_
 refine wp_ret ?_
 refine Z0b rfl k e0 ?_
 exact ⟨g, rfl, O⟩
set_option maxRecDepth 100000 in
set_option maxHeartbeats 4000000 in
theorem Z24 (r : Nat) (W0 : World) (hr : r ≤ 1114111) : Calls Tryd.prog 22 #[.int .i32 (r : Nat)] W0 fun e w' => e = .returned (.int .i64 ((wideN r : Nat) : Int)) ∧ Ext W0 w' := by
 have O := OwnT.start W0
 refine Z0k Tryd.func22 rfl 24 rfl (by rfl) ?_
 intro a1 k hargs
 have e0 : a1.eval (.tmp 0) = .int .i32 ↑r := hargs 0 _ rfl
 clear hargs
 refine wp_seq ?_
 refine wp_region_lit ?_
 have hE := Env.refl a1 [2]
 refine sd 2 hE k (Z01 rfl rfl) ?_
 intro a2 hE e2 kp
 refine wpList_nil ?_
 replace e0 := hE.g e0
 replace k := k.env hE
 clear hE e2
 refine Z00 (wp_seq ?_)
 refine wp_seq ?_
 refine wp_region_lit ?_
 have hE := Env.refl a2 [5, 6, 7]
 apply Z08 5 hE k rfl (by rfl) (by rfl) rfl
 case h =>
  simp [go_sem, ↓IntWalk.iteOmega]
  with_reducible exact ⟨rfl, rfl⟩
 case hc => exact Z5t _ O
 clear O
 rintro e w4 ⟨g, rfl, O⟩
 refine ⟨_, rfl, ?_⟩
 intro a3 hE e5 kp
 refine sd 6 hE k (Z0d Tryd.underlying67 rfl e5) ?_
 intro a5 hE e6 kp
 replace e5 := kt kp e5
 refine sd 7 hE k (Z02 rfl rfl) ?_
 intro a6 hE e7 kp
 replace e5 := kt kp e5; replace e6 := kt kp e6
 refine wpList_nil ?_
 replace e0 := hE.g e0
 replace k := k.env hE
 clear hE
 refine Z00 ?_
 refine wp_block ?_
 refine wp_loop (fun a w => Fr 24 a ∧ a.eval (.tmp 0) = .int .i32 ↑r ∧ a.eval (.tmp 5) = .slice (some ⟨g, 0, none⟩) 6 6 ∧ a.eval (.tmp 6) = .int .i64 6 ∧ ∃ (i : Nat), a.eval (.tmp 7) = .int .i64 ↑i ∧ i ≤ 6 ∧ (∀ j x, j < i → spT[j]? = some x → ¬ (x.1 ≤ r ∧ r ≤ x.2.1)) ∧ OwnT W0.heap.size W0 [tBlk g 70 spA] w) (fun a w => 6 - (intOf (a.eval (.tmp 7))).toNat) ?_ ?_
 · exact ⟨k, e0, e5, e6, 0, e7, Nat.zero_le _, (fun j x h => absurd h (Nat.not_lt_zero j)), O⟩
 intro a7 w8 hI
 clear k e0 e5 e6
 obtain ⟨k, e0, e5, e6, h_⟩ := hI
 clear O e7
 obtain ⟨i, e7, hi, hpre, O⟩ := h_
 have mi := e7

 by_cases hlt : i < 6
 · skip
   refine wp_seq ?_
   refine wp_region_lit ?_
   have hE := Env.refl a7 [8]
   refine sd 8 hE k (Z06 (Z0j rfl (hE.g e7) (hE.g e6)) (decide_eq_true (by omega))) ?_
   intro a9 hE e8 kp
   refine wpList_nil ?_
   replace e0 := hE.g e0; replace e5 := hE.g e5; replace e6 := hE.g e6; replace e7 := hE.g e7
   replace k := k.env hE
   clear hE
   refine Z00 (wp_seq ?_)
   refine Z0a e8 rfl ?_
   refine wp_skip ?_
   refine Z00 (wp_seq ?_)
   refine wp_block ?_
   obtain ⟨⟨x1, x2, x3⟩, hx⟩ : ∃ x, spT[i]? = some x := ⟨_, List.getElem?_eq_getElem hlt⟩
   obtain ⟨y0, y1, y2⟩ := sp_at hx
   have hb := OwnT.blk O 0 rfl
   have d0 := (hb.cell (i * 3)).trans y0
   have d1 := (hb.cell (i * 3 + 1)).trans y1
   have d2 := (hb.cell (i * 3 + 2)).trans y2
   clear hb y0 y1 y2

   refine wp_seq ?_
   refine wp_region_lit ?_
   have hE := Env.refl a9 [9, 10, 4]
   apply Z05 9 hE k rfl rfl rfl rfl
   case h =>
    simp [go_sem, ↓IntWalk.iteOmega, ev (hE.g e5), ev (hE.g e7)]
    with_reducible rfl
   intro a10 hE e9 kp
   apply Z05 10 hE k rfl rfl rfl rfl
   case h =>
    simp [go_sem, ↓IntWalk.iteOmega, ev e9, d0, d1, d2]
    with_reducible rfl
   intro a11 hE e10 kp
   refine Z3g O (cs := #[.int .i32 0, .int .i32 0, .int .i64 0]) (t := 70) 4 hE k rfl (by rfl) (by rfl) rfl (by simp [go_sem, ↓IntWalk.iteOmega]) ?_
   clear O
   intro gb a12 w13 O hE e4 kp
   replace e10 := kt kp e10
   have q0 : w13.cell? ⟨gb, 0, none⟩ = some (.int .i32 0) := (OwnT.blk O 0 rfl).cell 0
   have z0 : w13.frozen? ⟨gb, 0, none⟩ = false := (OwnT.blk O 0 rfl).frozen 0
   have q1 : w13.cell? ⟨gb, 1, none⟩ = some (.int .i32 0) := (OwnT.blk O 0 rfl).cell 1
   have z1 : w13.frozen? ⟨gb, 1, none⟩ = false := (OwnT.blk O 0 rfl).frozen 1
   have q2 : w13.cell? ⟨gb, 2, none⟩ = some (.int .i64 0) := (OwnT.blk O 0 rfl).cell 2
   have z2 : w13.frozen? ⟨gb, 2, none⟩ = false := (OwnT.blk O 0 rfl).frozen 2
   refine Z30 (w' := (((w13.setCell ⟨gb, 0, none⟩ (.int .i32 ↑x1)).setCell ⟨gb, 1, none⟩ (.int .i32 ↑x2)).setCell ⟨gb, 2, none⟩ (.int .i64 ↑x3))) hE rfl rfl (by simp [go_sem, ↓IntWalk.iteOmega, ev e4, ev e10, q0, z0, q1, z1, q2, z2]) ?_
   replace O := OwnT.push 0 rfl ((((OwnT.pull O 0 rfl).set 0 (.int .i32 ↑x1)).set 1 (.int .i32 ↑x2)).set 2 (.int .i64 ↑x3))
   clear q0 z0 q1 z1 q2 z2
   generalize (((w13.setCell ⟨gb, 0, none⟩ (.int .i32 ↑x1)).setCell ⟨gb, 1, none⟩ (.int .i32 ↑x2)).setCell ⟨gb, 2, none⟩ (.int .i64 ↑x3)) = w14 at O ⊢
   replace O : OwnT _ _ ([tBlk gb 70 #[.int .i32 ↑x1, .int .i32 ↑x2, .int .i64 ↑x3], tBlk g 70 spA]) w14 := O
   refine wpList_nil ?_
   replace e0 := hE.g e0; replace e5 := hE.g e5; replace e6 := hE.g e6; replace e7 := hE.g e7
   replace k := k.env hE
   clear hE e8 e10
   refine Z00 ?_
   by_cases h1 : x1 ≤ r
   · skip
     by_cases h2 : r ≤ x2
     · obtain ⟨hw, -⟩ := sp_in hx h1 h2
       refine wp_seq ?_
       refine wp_region_lit ?_
       have hE := Env.refl a12 [11, 12, 13, 14, 15, 16, 17, 18, 19, 20]
       refine zm 11 hE k e0 ?_
       intro a15 hE e11 kp
       apply Z05 12 hE k rfl rfl rfl rfl
       case h =>
        simp [go_sem, ↓IntWalk.iteOmega, ev (hE.g e4)]
        with_reducible rfl
       intro a16 hE e12 kp
       replace e11 := kt kp e11
       apply Z05 13 hE k rfl rfl rfl rfl
       case h =>
        have q0 : w14.cell? ⟨gb, 0, none⟩ = some (.int .i32 ↑x1) := (OwnT.blk O 0 rfl).cell 0
        simp [go_sem, ↓IntWalk.iteOmega, ev e12, q0]
        with_reducible rfl
       intro a17 hE e13 kp
       replace e11 := kt kp e11
       refine sd 14 hE k (Z06 (Z3b rfl e11 e13) (decide_eq_true (by omega))) ?_
       intro a18 hE e14 kp
       refine sd 15 hE k (Z02 rfl e14) ?_
       intro a19 hE e15 kp
       apply Z03 16 hE k rfl rfl rfl rfl rfl e15
       case h =>
        exact Z02 rfl (hE.g e0)
       intro a20 hE e16 kp
       replace e15 := kt kp e15
       apply Z03 17 hE k rfl rfl rfl rfl rfl e15
       case h =>
        simp [go_sem, ↓IntWalk.iteOmega, ev (hE.g e4)]
        with_reducible rfl
       intro a21 hE e17 kp
       replace e15 := kt kp e15; replace e16 := kt kp e16
       apply Z03 18 hE k rfl rfl rfl rfl rfl e15
       case h =>
        have q0 : w14.cell? ⟨gb, 1, none⟩ = some (.int .i32 ↑x2) := (OwnT.blk O 0 rfl).cell 1
        simp [go_sem, ↓IntWalk.iteOmega, ev e17, q0]
        with_reducible rfl
       intro a22 hE e18 kp
       replace e15 := kt kp e15; replace e16 := kt kp e16
       apply Z03 19 hE k rfl rfl rfl rfl rfl e15
       case h =>
        exact Z06 (x_leq rfl e16 e18) (decide_eq_true (by omega))
       intro a23 hE e19 kp
       replace e15 := kt kp e15
       refine sd 20 hE k (Z09 rfl e15 e19) ?_
       intro a24 hE e20 kp
       refine wpList_nil ?_
       replace e0 := hE.g e0; replace e4 := hE.g e4; replace e5 := hE.g e5; replace e6 := hE.g e6; replace e7 := hE.g e7
       replace k := k.env hE
       clear hE
       refine Z00 ?_
       refine Z0a e20 rfl ?_
       refine wp_seq ?_
       refine wp_region_lit ?_
       have hE := Env.refl a24 [21, 22, 2]
       apply Z05 21 hE k rfl rfl rfl rfl
       case h =>
        simp [go_sem, ↓IntWalk.iteOmega, ev (hE.g e4)]
        with_reducible rfl
       intro a25 hE e21 kp
       apply Z05 22 hE k rfl rfl rfl rfl
       case h =>
        have q0 : w14.cell? ⟨gb, 2, none⟩ = some (.int .i64 ↑x3) := (OwnT.blk O 0 rfl).cell 2
        simp [go_sem, ↓IntWalk.iteOmega, ev e21, q0]
        with_reducible rfl
       intro a26 hE e22 kp
       refine sd 2 hE k (Z01 rfl e22) ?_
       intro a27 hE e2 kp
       refine wpList_nil ?_
       replace k := k.env hE
       clear hE e0 e4 e5 e6 e7 e20
       refine Z00 ?_
       refine wp_ret ?_
       refine Z0o ?_
       refine Z0c ?_
       refine Z0c ?_
       refine Z0o ?_
       refine Z0c ?_
       refine Z0b rfl k e2 ?_
       exact ⟨by rw [hw], O.below⟩
     · skip
       refine wp_seq ?_
       refine wp_region_lit ?_
       have hE := Env.refl a12 [11, 12, 13, 14, 15, 16, 17, 18, 19, 20]
       refine zm 11 hE k e0 ?_
       intro a28 hE e11 kp
       apply Z05 12 hE k rfl rfl rfl rfl
       case h =>
        simp [go_sem, ↓IntWalk.iteOmega, ev (hE.g e4)]
        with_reducible rfl
       intro a29 hE e12 kp
       replace e11 := kt kp e11
       apply Z05 13 hE k rfl rfl rfl rfl
       case h =>
        have q0 : w14.cell? ⟨gb, 0, none⟩ = some (.int .i32 ↑x1) := (OwnT.blk O 0 rfl).cell 0
        simp [go_sem, ↓IntWalk.iteOmega, ev e12, q0]
        with_reducible rfl
       intro a30 hE e13 kp
       replace e11 := kt kp e11
       refine sd 14 hE k (Z06 (Z3b rfl e11 e13) (decide_eq_true (by omega))) ?_
       intro a31 hE e14 kp
       refine sd 15 hE k (Z02 rfl e14) ?_
       intro a32 hE e15 kp
       apply Z03 16 hE k rfl rfl rfl rfl rfl e15
       case h =>
        exact Z02 rfl (hE.g e0)
       intro a33 hE e16 kp
       replace e15 := kt kp e15
       apply Z03 17 hE k rfl rfl rfl rfl rfl e15
       case h =>
        simp [go_sem, ↓IntWalk.iteOmega, ev (hE.g e4)]
        with_reducible rfl
       intro a34 hE e17 kp
       replace e15 := kt kp e15; replace e16 := kt kp e16
       apply Z03 18 hE k rfl rfl rfl rfl rfl e15
       case h =>
        have q0 : w14.cell? ⟨gb, 1, none⟩ = some (.int .i32 ↑x2) := (OwnT.blk O 0 rfl).cell 1
        simp [go_sem, ↓IntWalk.iteOmega, ev e17, q0]
        with_reducible rfl
       intro a35 hE e18 kp
       replace e15 := kt kp e15; replace e16 := kt kp e16
       apply Z03 19 hE k rfl rfl rfl rfl rfl e15
       case h =>
        exact Z06 (x_leq rfl e16 e18) (decide_eq_false (by omega))
       intro a36 hE e19 kp
       replace e15 := kt kp e15
       refine sd 20 hE k (Z09 rfl e15 e19) ?_
       intro a37 hE e20 kp
       refine wpList_nil ?_
       replace e0 := hE.g e0; replace e4 := hE.g e4; replace e5 := hE.g e5; replace e6 := hE.g e6; replace e7 := hE.g e7
       replace k := k.env hE
       clear hE
       refine Z00 ?_
       refine Z0e e20 rfl ?_
       refine wp_skip ?_
       refine Z0i ?_
       refine Z00 ?_
       refine wp_region_lit ?_
       have hE := Env.refl a37 [23, 7]
       refine sd 23 hE k (Z0z rfl e7 rfl (by omega)) ?_
       intro a38 hE e23 kp
       replace e7 := kt kp e7
       refine sd 7 hE k (Z02 rfl e23) ?_
       intro a39 hE e7 kp
       refine wpList_nil ?_
       replace e0 := hE.g e0; replace e5 := hE.g e5; replace e6 := hE.g e6
       replace k := k.env hE
       clear hE e4 e20
       refine Z00 ?_
       replace O : OwnT _ _ ([tBlk g 70 spA]) w14 := OwnT.pick O [1] (by decide)
       refine ⟨⟨k, e0, e5, e6, i + 1, e7, by omega, (fun j x hj hx' => ?_), O⟩, ?_⟩
       · rcases Nat.lt_or_ge j i with h | h
         · exact hpre j x h hx'
         · obtain rfl : j = i := by omega
           rw [hx] at hx'; injection hx' with hx'; subst hx'
           exact fun h => h2 h.2
       · rw [e7, mi]; simp only [intOf]; omega
   · skip
     refine wp_seq ?_
     refine wp_region_lit ?_
     have hE := Env.refl a12 [11, 12, 13, 14, 15, 16, 17, 18, 19, 20]
     refine zm 11 hE k e0 ?_
     intro a40 hE e11 kp
     apply Z05 12 hE k rfl rfl rfl rfl
     case h =>
      simp [go_sem, ↓IntWalk.iteOmega, ev (hE.g e4)]
      with_reducible rfl
     intro a41 hE e12 kp
     replace e11 := kt kp e11
     apply Z05 13 hE k rfl rfl rfl rfl
     case h =>
      have q0 : w14.cell? ⟨gb, 0, none⟩ = some (.int .i32 ↑x1) := (OwnT.blk O 0 rfl).cell 0
      simp [go_sem, ↓IntWalk.iteOmega, ev e12, q0]
      with_reducible rfl
     intro a42 hE e13 kp
     replace e11 := kt kp e11
     refine sd 14 hE k (Z06 (Z3b rfl e11 e13) (decide_eq_false (by omega))) ?_
     intro a43 hE e14 kp
     refine sd 15 hE k (Z02 rfl e14) ?_
     intro a44 hE e15 kp
     refine Z04 16 hE k rfl (by rfl) (by rfl) rfl rfl (.inl e15) ?_
     intro a45 hE e16 kp
     replace e15 := kt kp e15
     refine Z04 17 hE k rfl (by rfl) (by rfl) rfl rfl (.inl e15) ?_
     intro a46 hE e17 kp
     replace e15 := kt kp e15; replace e16 := kt kp e16
     refine Z04 18 hE k rfl (by rfl) (by rfl) rfl rfl (.inl e15) ?_
     intro a47 hE e18 kp
     replace e15 := kt kp e15; replace e16 := kt kp e16
     refine Z04 19 hE k rfl (by rfl) (by rfl) rfl rfl (.inl e15) ?_
     intro a48 hE e19 kp
     replace e15 := kt kp e15
     refine sd 20 hE k (Z07 rfl e15 rfl) ?_
     intro a49 hE e20 kp
     refine wpList_nil ?_
     replace e0 := hE.g e0; replace e4 := hE.g e4; replace e5 := hE.g e5; replace e6 := hE.g e6; replace e7 := hE.g e7
     replace k := k.env hE
     clear hE
     refine Z00 ?_
     refine Z0e e20 rfl ?_
     refine wp_skip ?_
     refine Z0i ?_
     refine Z00 ?_
     refine wp_region_lit ?_
     have hE := Env.refl a49 [23, 7]
     refine sd 23 hE k (Z0z rfl e7 rfl (by omega)) ?_
     intro a50 hE e23 kp
     replace e7 := kt kp e7
     refine sd 7 hE k (Z02 rfl e23) ?_
     intro a51 hE e7 kp
     refine wpList_nil ?_
     replace e0 := hE.g e0; replace e5 := hE.g e5; replace e6 := hE.g e6
     replace k := k.env hE
     clear hE e4 e20
     refine Z00 ?_
     replace O : OwnT _ _ ([tBlk g 70 spA]) w14 := OwnT.pick O [1] (by decide)
     refine ⟨⟨k, e0, e5, e6, i + 1, e7, by omega, (fun j x hj hx' => ?_), O⟩, ?_⟩
     · rcases Nat.lt_or_ge j i with h | h
       · exact hpre j x h hx'
       · obtain rfl : j = i := by omega
         rw [hx] at hx'; injection hx' with hx'; subst hx'
         exact fun h => h1 h.1
     · rw [e7, mi]; simp only [intOf]; omega
 · skip
   refine wp_seq ?_
   refine wp_region_lit ?_
   have hE := Env.refl a7 [8]
   refine sd 8 hE k (Z06 (Z0j rfl (hE.g e7) (hE.g e6)) (decide_eq_false (by omega))) ?_
   intro a52 hE e8 kp
   refine wpList_nil ?_
   replace e0 := hE.g e0; replace e5 := hE.g e5; replace e6 := hE.g e6; replace e7 := hE.g e7
   replace k := k.env hE
   clear hE
   refine Z00 (wp_seq ?_)
   refine Z0e e8 rfl ?_
   refine wp_exit ?_
   refine Z0f ?_
   refine Z0f ?_
   refine Z0n ?_
   refine Z00 (wp_seq ?_)
   refine wp_region_lit ?_
   have hE := Env.refl a52 [2]
   refine sd 2 hE k (Z01 rfl rfl) ?_
   intro a53 hE e2 kp
   refine wpList_nil ?_
   replace k := k.env hE
   clear hE e0 e5 e6 e7 e8
   refine Z00 ?_
   refine wp_ret ?_
   obtain rfl : i = 6 := by omega
   refine Z0b rfl k e2 ?_
   exact ⟨by rw [sp_out hpre]; rfl, O.below⟩
set_option maxRecDepth 100000 in
set_option maxHeartbeats 4000000 in
theorem Z1k (l : Tx) (W0 : World) (hl : l.length ≤ 1000000) : Calls Tryd.prog 11 #[.string (sB l)] W0 fun e w' => e = .returned (.int .i64 ((widthL l : Nat) : Int)) ∧ Ext W0 w' := by
 have O := OwnT.start W0
 have hwl := Z23 l.length l (Nat.le_refl _)
 refine Z0k Tryd.func11 rfl 16 rfl (by rfl) ?_
 intro a1 k hargs
 have e0 : a1.eval (.tmp 0) = .string (sB l) := hargs 0 _ rfl
 clear hargs
 refine wp_seq ?_
 refine wp_region_lit ?_
 have hE := Env.refl a1 [2]
 refine sd 2 hE k (Z01 rfl rfl) ?_
 intro a2 hE e2 kp
 refine wpList_nil ?_
 replace e0 := hE.g e0
 replace k := k.env hE
 clear hE e2
 refine Z00 (wp_seq ?_)
 refine wp_region_lit ?_
 have hE := Env.refl a2 [3]
 refine sd 3 hE k (Z01 rfl rfl) ?_
 intro a3 hE e3 kp
 refine wpList_nil ?_
 replace e0 := hE.g e0
 replace k := k.env hE
 clear hE
 refine Z00 ?_
 obtain ⟨it, w9, hrg, O9⟩ := Z3k l O
 refine wp_seq ?_
 refine wp_seq ?_
 refine wp_region_lit ?_
 have hE := Env.refl a3 [6, 7]
 refine zm 6 hE k e0 ?_
 intro a4 hE e6 kp
 apply Z14 7 hE k rfl (by rfl) (by rfl) rfl
 case h =>
  exact hrg _ _ _ rfl e6
 intro a5 hE e7 kp
 replace O := O9
 clear O9 hrg
 refine wpList_nil ?_
 replace e3 := hE.g e3
 replace k := k.env hE
 clear hE e0
 refine Z00 ?_
 refine wp_block ?_
 refine wp_loop (fun a w => Fr 16 a ∧ a.eval (.tmp 7) = .pointer (some ⟨it, 0, none⟩) ∧ ∃ (pos n : Nat), a.eval (.tmp 3) = .int .i64 ↑n ∧ pos ≤ l.length ∧ n + widthL (l.drop pos) = widthL l ∧ OwnT W0.heap.size W0 [tObj it (.stringIter (sB l) pos)] w) (fun a w => l.length - iterPos w it) ?_ ?_
 · exact ⟨k, e7, 0, 0, e3, Nat.zero_le _, by rw [List.drop_zero, Nat.zero_add], O⟩
 intro a6 w7 hI
 clear k e7
 obtain ⟨k, e7, h_⟩ := hI
 clear O e3
 obtain ⟨pos, n, e3, hpos, hn, O⟩ := h_
 have mi := Z1j (OwnT.get O 0 rfl)

 by_cases hlt : pos < l.length
 · skip
   obtain ⟨r, d, hd⟩ : ∃ r d, dec (l.drop pos) = (r, d) := ⟨_, _, rfl⟩
   obtain ⟨hd1, hd2, hr⟩ := Z85 hlt hd
   have hwa := Z6w hlt hd
   obtain ⟨w8, hnx, O8⟩ := Z4l O hlt hd

   refine wp_seq ?_
   refine wp_region_lit ?_
   have hE := Env.refl a6 [8, 9]
   apply Z14 8 hE k rfl (by rfl) (by rfl) rfl
   case h =>
    exact hnx _ _ _ rfl (hE.g e7)
   intro a8 hE e8 kp
   replace O := O8
   clear O8 hnx
   apply Z05 9 hE k rfl rfl rfl rfl
   case h =>
    simp [go_sem, ↓IntWalk.iteOmega, ev e8]
    with_reducible rfl
   intro a9 hE e9 kp
   replace e8 := kt kp e8
   refine wpList_nil ?_
   replace e3 := hE.g e3; replace e7 := hE.g e7
   replace k := k.env hE
   clear hE
   refine Z00 (wp_seq ?_)
   refine Z0a e9 rfl ?_
   refine wp_skip ?_
   refine Z00 ?_
   refine wp_block ?_
   refine wp_seq ?_
   refine wp_region_lit ?_
   have hE := Env.refl a9 [10, 5]
   apply Z05 10 hE k rfl rfl rfl rfl
   case h =>
    simp [go_sem, ↓IntWalk.iteOmega, ev (hE.g e8)]
    with_reducible rfl
   intro a10 hE e10 kp
   refine sd 5 hE k (Z01 rfl e10) ?_
   intro a11 hE e5 kp
   refine wpList_nil ?_
   replace e3 := hE.g e3; replace e7 := hE.g e7
   replace k := k.env hE
   clear hE e8 e9
   refine Z00 ?_
   refine wp_region_lit ?_
   have hE := Env.refl a11 [11, 12, 13, 14, 3]
   refine sd 11 hE k (Z02 rfl e3) ?_
   intro a12 hE e11 kp
   replace e3 := kt kp e3
   refine zm 12 hE k e5 ?_
   intro a13 hE e12 kp
   replace e3 := kt kp e3; replace e11 := kt kp e11
   apply Z08 13 hE k rfl (by rfl) (by rfl) rfl
   case h =>
    simp [go_sem, ↓IntWalk.iteOmega, ev e12]
    with_reducible exact ⟨rfl, rfl⟩
   case hc => exact Z24 r _ hr
   rintro e w15 ⟨rfl, RE⟩
   replace O := OwnT.ext O RE
   refine ⟨_, rfl, ?_⟩
   intro a14 hE e13 kp
   replace e3 := kt kp e3; replace e11 := kt kp e11
   refine sd 14 hE k (Z0z rfl e11 e13 (by omega)) ?_
   intro a16 hE e14 kp
   replace e3 := kt kp e3
   replace e14 := e14.trans (Z0x (show (n : Int) + (wideN r : Int) = ((n + wideN r : Nat) : Int) by omega))
   refine sd 3 hE k (Z01 rfl e14) ?_
   intro a17 hE e3 kp
   refine wpList_nil ?_
   replace e7 := hE.g e7
   replace k := k.env hE
   clear hE e5
   refine Z0i ?_
   refine Z00 ?_
   have m2 := Z1j (OwnT.get O 0 rfl)
   refine ⟨⟨k, e7, pos + d, n + wideN r, e3, hd2, by omega, O⟩, ?_⟩
   rw [mi, m2]; omega
 · skip
   refine wp_seq ?_
   refine wp_region_lit ?_
   have hE := Env.refl a6 [8, 9]
   refine sd 8 hE k (Z2j rfl e7 (OwnT.get O 0 rfl) hlt) ?_
   intro a18 hE e8 kp
   apply Z05 9 hE k rfl rfl rfl rfl
   case h =>
    simp [go_sem, ↓IntWalk.iteOmega, ev e8]
    with_reducible rfl
   intro a19 hE e9 kp
   replace e8 := kt kp e8
   refine wpList_nil ?_
   replace e3 := hE.g e3; replace e7 := hE.g e7
   replace k := k.env hE
   clear hE
   refine Z00 (wp_seq ?_)
   refine Z0e e9 rfl ?_
   refine wp_exit ?_
   refine Z0f ?_
   refine Z0f ?_
   refine Z0n ?_
   refine Z00 (wp_seq ?_)
   refine wp_region_lit ?_
   have hE := Env.refl a19 [15, 2]
   refine zm 15 hE k e3 ?_
   intro a20 hE e15 kp
   refine sd 2 hE k (Z01 rfl e15) ?_
   intro a21 hE e2 kp
   refine wpList_nil ?_
   replace k := k.env hE
   clear hE e3 e7 e8 e9
   refine Z00 ?_
   refine wp_ret ?_
   have hz : widthL (l.drop pos) = 0 := by rw [List.drop_eq_nil_of_le (by omega)]; rfl
   refine Z0b rfl k e2 ?_
   exact ⟨by rw [← hn, hz, Nat.add_zero], O.below⟩
set_option maxRecDepth 100000 in
set_option maxHeartbeats 4000000 in
theorem Z7m (l : Tx) (x : Int) (q : Nat) (W0 : World) (hl : l.length ≤ 1000000) (hq : min (max x 0) 1000 = (q : Int)) : Calls Tryd.prog 13 #[.string (sB l), .int .i64 x] W0 fun e w' => e = .returned (.string (sB (fitL q l))) ∧ Ext W0 w' := by
 have O := OwnT.start W0
 have hq2 : q ≤ 1000 := by omega
 refine Z0k Tryd.func13 rfl 36 rfl (by rfl) ?_
 intro a1 k hargs
 have e0 : a1.eval (.tmp 0) = .string (sB l) := hargs 0 _ rfl
 have e1 : a1.eval (.tmp 1) = .int .i64 x := hargs 1 _ rfl
 clear hargs
 refine wp_seq ?_
 refine wp_region_lit ?_
 have hE := Env.refl a1 [4]
 refine sd 4 hE k (Z01 rfl rfl) ?_
 intro a2 hE e4 kp
 refine wpList_nil ?_
 replace e0 := hE.g e0; replace e1 := hE.g e1
 replace k := k.env hE
 clear hE e4
 refine Z00 (wp_seq ?_)
 refine wp_region_lit ?_
 have hE := Env.refl a2 [8, 9, 10, 1]
 refine sd 8 hE k (Z02 rfl e1) ?_
 intro a3 hE e8 kp
 replace e1 := kt kp e1
 refine sd 9 hE k (Z8a rfl e8 rfl) ?_
 intro a4 hE e9 kp
 replace e1 := kt kp e1
 refine sd 10 hE k (x_min rfl e9 rfl) ?_
 intro a5 hE e10 kp
 replace e1 := kt kp e1
 replace e10 := e10.trans (Z0x hq)
 refine sd 1 hE k (Z01 rfl e10) ?_
 intro a6 hE e1 kp
 refine wpList_nil ?_
 replace e0 := hE.g e0
 replace k := k.env hE
 clear hE
 refine Z00 (wp_seq ?_)
 refine wp_region_lit ?_
 have hE := Env.refl a6 [5]
 refine sd 5 hE k (Z01 rfl rfl) ?_
 intro a7 hE e5 kp
 refine wpList_nil ?_
 replace e0 := hE.g e0; replace e1 := hE.g e1
 replace k := k.env hE
 clear hE
 refine Z00 ?_
 obtain ⟨it, w9, hrg, O9⟩ := Z3k l O
 refine wp_seq ?_
 refine wp_seq ?_
 refine wp_region_lit ?_
 have hE := Env.refl a7 [11, 12]
 refine zm 11 hE k e0 ?_
 intro a8 hE e11 kp
 apply Z14 12 hE k rfl (by rfl) (by rfl) rfl
 case h =>
  exact hrg _ _ _ rfl e11
 intro a9 hE e12 kp
 replace O := O9
 clear O9 hrg
 refine wpList_nil ?_
 replace e0 := hE.g e0; replace e1 := hE.g e1; replace e5 := hE.g e5
 replace k := k.env hE
 clear hE
 refine Z00 ?_
 refine wp_block ?_
 refine wp_loop (fun a w => Fr 36 a ∧ a.eval (.tmp 0) = .string (sB l) ∧ a.eval (.tmp 1) = .int .i64 ↑q ∧ a.eval (.tmp 12) = .pointer (some ⟨it, 0, none⟩) ∧ ∃ (pos n : Nat), a.eval (.tmp 5) = .int .i64 ↑n ∧ pos ≤ l.length ∧ CutOn q l pos n ∧ OwnT W0.heap.size W0 [tObj it (.stringIter (sB l) pos)] w) (fun a w => l.length - iterPos w it) ?_ ?_
 · exact ⟨k, e0, e1, e12, 0, 0, e5, Nat.zero_le _, CutOn.start q l, O⟩
 intro a10 w11 hI
 clear k e0 e1 e12
 obtain ⟨k, e0, e1, e12, h_⟩ := hI
 clear O e5
 obtain ⟨pos, n, e5, hpos, hn, O⟩ := h_
 have hnq := hn.1
 have mi := Z1j (OwnT.get O 0 rfl)

 by_cases hlt : pos < l.length
 · skip
   obtain ⟨r, d, hd⟩ : ∃ r d, dec (l.drop pos) = (r, d) := ⟨_, _, rfl⟩
   obtain ⟨hd1, hd2, hr⟩ := Z85 hlt hd
   have hw2 := Z5f r
   obtain ⟨w8, hnx, O8⟩ := Z4l O hlt hd

   by_cases hbig : q < n + wideN r
   · skip
     refine wp_seq ?_
     refine wp_region_lit ?_
     have hE := Env.refl a10 [13, 14]
     apply Z14 13 hE k rfl (by rfl) (by rfl) rfl
     case h =>
      exact hnx _ _ _ rfl (hE.g e12)
     intro a12 hE e13 kp
     replace O := O8
     clear O8 hnx
     apply Z05 14 hE k rfl rfl rfl rfl
     case h =>
      simp [go_sem, ↓IntWalk.iteOmega, ev e13]
      with_reducible rfl
     intro a13 hE e14 kp
     replace e13 := kt kp e13
     refine wpList_nil ?_
     replace e0 := hE.g e0; replace e1 := hE.g e1; replace e5 := hE.g e5; replace e12 := hE.g e12
     replace k := k.env hE
     clear hE
     refine Z00 (wp_seq ?_)
     refine Z0a e14 rfl ?_
     refine wp_skip ?_
     refine Z00 ?_
     refine wp_block ?_
     refine wp_seq ?_
     refine wp_region_lit ?_
     have hE := Env.refl a13 [15, 16, 6, 7]
     apply Z05 15 hE k rfl rfl rfl rfl
     case h =>
      simp [go_sem, ↓IntWalk.iteOmega, ev (hE.g e13)]
      with_reducible rfl
     intro a14 hE e15 kp
     apply Z05 16 hE k rfl rfl rfl rfl
     case h =>
      simp [go_sem, ↓IntWalk.iteOmega, ev (hE.g e13)]
      with_reducible rfl
     intro a15 hE e16 kp
     replace e15 := kt kp e15
     refine sd 6 hE k (Z01 rfl e15) ?_
     intro a16 hE e6 kp
     replace e16 := kt kp e16
     refine sd 7 hE k (Z01 rfl e16) ?_
     intro a17 hE e7 kp
     replace e6 := kt kp e6
     refine wpList_nil ?_
     replace e0 := hE.g e0; replace e1 := hE.g e1; replace e5 := hE.g e5; replace e12 := hE.g e12
     replace k := k.env hE
     clear hE e13 e14
     refine Z00 (wp_seq ?_)
     refine wp_seq ?_
     refine wp_region_lit ?_
     have hE := Env.refl a17 [17, 18, 19, 20, 21, 22]
     refine zm 17 hE k e5 ?_
     intro a18 hE e17 kp
     refine zm 18 hE k e7 ?_
     intro a19 hE e18 kp
     replace e17 := kt kp e17
     apply Z08 19 hE k rfl (by rfl) (by rfl) rfl
     case h =>
      simp [go_sem, ↓IntWalk.iteOmega, ev e18]
      with_reducible exact ⟨rfl, rfl⟩
     case hc => exact Z24 r _ hr
     rintro e w21 ⟨rfl, RE⟩
     replace O := OwnT.ext O RE
     refine ⟨_, rfl, ?_⟩
     intro a20 hE e19 kp
     replace e17 := kt kp e17
     refine sd 20 hE k (Z0z rfl e17 e19 (by omega)) ?_
     intro a22 hE e20 kp
     refine zm 21 hE k e1 ?_
     intro a23 hE e21 kp
     replace e20 := kt kp e20
     refine sd 22 hE k (Z06 (Z17 rfl e20 e21) (decide_eq_true (by omega))) ?_
     intro a24 hE e22 kp
     refine wpList_nil ?_
     replace e0 := hE.g e0; replace e1 := hE.g e1; replace e5 := hE.g e5; replace e6 := hE.g e6; replace e7 := hE.g e7; replace e12 := hE.g e12
     replace k := k.env hE
     clear hE
     refine Z00 ?_
     refine Z0a e22 rfl ?_
     refine wp_seq ?_
     refine wp_region_lit ?_
     have hE := Env.refl a24 [23, 24, 25, 0]
     refine sd 23 hE k (Z02 rfl e0) ?_
     intro a25 hE e23 kp
     replace e0 := kt kp e0
     refine zm 24 hE k e6 ?_
     intro a26 hE e24 kp
     replace e0 := kt kp e0; replace e23 := kt kp e23
     refine sd 25 hE k (Z45 (l := l) Tryd.underlying9 rfl e23 e24 pos rfl hpos) ?_
     intro a27 hE e25 kp
     replace e0 := kt kp e0
     refine sd 0 hE k (Z01 rfl e25) ?_
     intro a28 hE e0 kp
     refine wpList_nil ?_
     replace e1 := hE.g e1; replace e5 := hE.g e5
     replace k := k.env hE
     clear hE e6 e7 e12 e22
     refine Z00 ?_
     refine wp_exit ?_
     refine Z0f ?_
     refine block_o rfl ?_
     refine Z0f ?_
     refine Z0n ?_
     refine Z00 (wp_seq ?_)
     refine wp_region_lit ?_
     have hE := Env.refl a28 [30, 31, 32, 33, 34, 35, 4]
     refine zm 30 hE k e0 ?_
     intro a29 hE e30 kp
     refine zm 31 hE k e1 ?_
     intro a30 hE e31 kp
     replace e30 := kt kp e30
     refine zm 32 hE k e5 ?_
     intro a31 hE e32 kp
     replace e30 := kt kp e30; replace e31 := kt kp e31
     refine sd 33 hE k (Z6t rfl e31 e32 (by omega)) ?_
     intro a32 hE e33 kp
     replace e30 := kt kp e30
     replace e33 := e33.trans (Z0x (show (q : Int) - (n : Int) = ((q - n : Nat) : Int) by omega))
     apply Z08 34 hE k rfl (by rfl) (by rfl) rfl
     case h =>
      simp [go_sem, ↓IntWalk.iteOmega, ev e33]
      with_reducible exact ⟨rfl, rfl⟩
     case hc => exact sp_l (q - n) _ (by omega)
     rintro e w34 ⟨rfl, RE⟩
     replace O := OwnT.ext O RE
     refine ⟨_, rfl, ?_⟩
     intro a33 hE e34 kp
     replace e30 := kt kp e30
     refine sd 35 hE k (Z6v (l := l.take pos) (m := List.replicate (q - n) 32) rfl e30 e34 (by rw [List.length_replicate]; rw [List.length_take]; omega)) ?_
     intro a35 hE e35 kp
     refine sd 4 hE k (Z01 rfl e35) ?_
     intro a36 hE e4 kp
     refine wpList_nil ?_
     replace k := k.env hE
     clear hE e0 e1 e5
     refine Z00 ?_
     refine wp_ret ?_
     refine Z0b rfl k e4 ?_
     exact ⟨by rw [hn.stop hlt hd hbig], O.below⟩
   · have hst := hn.step hlt hd hbig
     refine wp_seq ?_
     refine wp_region_lit ?_
     have hE := Env.refl a10 [13, 14]
     apply Z14 13 hE k rfl (by rfl) (by rfl) rfl
     case h =>
      exact hnx _ _ _ rfl (hE.g e12)
     intro a37 hE e13 kp
     replace O := O8
     clear O8 hnx
     apply Z05 14 hE k rfl rfl rfl rfl
     case h =>
      simp [go_sem, ↓IntWalk.iteOmega, ev e13]
      with_reducible rfl
     intro a38 hE e14 kp
     replace e13 := kt kp e13
     refine wpList_nil ?_
     replace e0 := hE.g e0; replace e1 := hE.g e1; replace e5 := hE.g e5; replace e12 := hE.g e12
     replace k := k.env hE
     clear hE
     refine Z00 (wp_seq ?_)
     refine Z0a e14 rfl ?_
     refine wp_skip ?_
     refine Z00 ?_
     refine wp_block ?_
     refine wp_seq ?_
     refine wp_region_lit ?_
     have hE := Env.refl a38 [15, 16, 6, 7]
     apply Z05 15 hE k rfl rfl rfl rfl
     case h =>
      simp [go_sem, ↓IntWalk.iteOmega, ev (hE.g e13)]
      with_reducible rfl
     intro a39 hE e15 kp
     apply Z05 16 hE k rfl rfl rfl rfl
     case h =>
      simp [go_sem, ↓IntWalk.iteOmega, ev (hE.g e13)]
      with_reducible rfl
     intro a40 hE e16 kp
     replace e15 := kt kp e15
     refine sd 6 hE k (Z01 rfl e15) ?_
     intro a41 hE e6 kp
     replace e16 := kt kp e16
     refine sd 7 hE k (Z01 rfl e16) ?_
     intro a42 hE e7 kp
     replace e6 := kt kp e6
     refine wpList_nil ?_
     replace e0 := hE.g e0; replace e1 := hE.g e1; replace e5 := hE.g e5; replace e12 := hE.g e12
     replace k := k.env hE
     clear hE e13 e14
     refine Z00 (wp_seq ?_)
     refine wp_seq ?_
     refine wp_region_lit ?_
     have hE := Env.refl a42 [17, 18, 19, 20, 21, 22]
     refine zm 17 hE k e5 ?_
     intro a43 hE e17 kp
     refine zm 18 hE k e7 ?_
     intro a44 hE e18 kp
     replace e17 := kt kp e17
     apply Z08 19 hE k rfl (by rfl) (by rfl) rfl
     case h =>
      simp [go_sem, ↓IntWalk.iteOmega, ev e18]
      with_reducible exact ⟨rfl, rfl⟩
     case hc => exact Z24 r _ hr
     rintro e w46 ⟨rfl, RE⟩
     replace O := OwnT.ext O RE
     refine ⟨_, rfl, ?_⟩
     intro a45 hE e19 kp
     replace e17 := kt kp e17
     refine sd 20 hE k (Z0z rfl e17 e19 (by omega)) ?_
     intro a47 hE e20 kp
     refine zm 21 hE k e1 ?_
     intro a48 hE e21 kp
     replace e20 := kt kp e20
     refine sd 22 hE k (Z06 (Z17 rfl e20 e21) (decide_eq_false (by omega))) ?_
     intro a49 hE e22 kp
     refine wpList_nil ?_
     replace e0 := hE.g e0; replace e1 := hE.g e1; replace e5 := hE.g e5; replace e6 := hE.g e6; replace e7 := hE.g e7; replace e12 := hE.g e12
     replace k := k.env hE
     clear hE
     refine Z00 ?_
     refine Z0e e22 rfl ?_
     refine wp_skip ?_
     refine Z00 ?_
     refine wp_region_lit ?_
     have hE := Env.refl a49 [26, 27, 28, 29, 5]
     refine sd 26 hE k (Z02 rfl e5) ?_
     intro a50 hE e26 kp
     replace e5 := kt kp e5
     refine zm 27 hE k e7 ?_
     intro a51 hE e27 kp
     replace e5 := kt kp e5; replace e26 := kt kp e26
     apply Z08 28 hE k rfl (by rfl) (by rfl) rfl
     case h =>
      simp [go_sem, ↓IntWalk.iteOmega, ev e27]
      with_reducible exact ⟨rfl, rfl⟩
     case hc => exact Z24 r _ hr
     rintro e w53 ⟨rfl, RE⟩
     replace O := OwnT.ext O RE
     refine ⟨_, rfl, ?_⟩
     intro a52 hE e28 kp
     replace e5 := kt kp e5; replace e26 := kt kp e26
     refine sd 29 hE k (Z0z rfl e26 e28 (by omega)) ?_
     intro a54 hE e29 kp
     replace e5 := kt kp e5
     replace e29 := e29.trans (Z0x (show (n : Int) + (wideN r : Int) = ((n + wideN r : Nat) : Int) by omega))
     refine sd 5 hE k (Z01 rfl e29) ?_
     intro a55 hE e5 kp
     refine wpList_nil ?_
     replace e0 := hE.g e0; replace e1 := hE.g e1; replace e12 := hE.g e12
     replace k := k.env hE
     clear hE e6 e7 e22
     refine Z0i ?_
     refine Z00 ?_
     have m2 := Z1j (OwnT.get O 0 rfl)
     refine ⟨⟨k, e0, e1, e12, pos + d, n + wideN r, e5, hd2, hst, O⟩, ?_⟩
     rw [mi, m2]; omega
 · skip
   refine wp_seq ?_
   refine wp_region_lit ?_
   have hE := Env.refl a10 [13, 14]
   refine sd 13 hE k (Z2j rfl e12 (OwnT.get O 0 rfl) hlt) ?_
   intro a56 hE e13 kp
   apply Z05 14 hE k rfl rfl rfl rfl
   case h =>
    simp [go_sem, ↓IntWalk.iteOmega, ev e13]
    with_reducible rfl
   intro a57 hE e14 kp
   replace e13 := kt kp e13
   refine wpList_nil ?_
   replace e0 := hE.g e0; replace e1 := hE.g e1; replace e5 := hE.g e5; replace e12 := hE.g e12
   replace k := k.env hE
   clear hE
   refine Z00 (wp_seq ?_)
   refine Z0e e14 rfl ?_
   refine wp_exit ?_
   refine Z0f ?_
   refine Z0f ?_
   refine Z0n ?_
   refine Z00 (wp_seq ?_)
   refine wp_region_lit ?_
   have hE := Env.refl a57 [30, 31, 32, 33, 34, 35, 4]
   refine zm 30 hE k e0 ?_
   intro a58 hE e30 kp
   refine zm 31 hE k e1 ?_
   intro a59 hE e31 kp
   replace e30 := kt kp e30
   refine zm 32 hE k e5 ?_
   intro a60 hE e32 kp
   replace e30 := kt kp e30; replace e31 := kt kp e31
   refine sd 33 hE k (Z6t rfl e31 e32 (by omega)) ?_
   intro a61 hE e33 kp
   replace e30 := kt kp e30
   replace e33 := e33.trans (Z0x (show (q : Int) - (n : Int) = ((q - n : Nat) : Int) by omega))
   apply Z08 34 hE k rfl (by rfl) (by rfl) rfl
   case h =>
    simp [go_sem, ↓IntWalk.iteOmega, ev e33]
    with_reducible exact ⟨rfl, rfl⟩
   case hc => exact sp_l (q - n) _ (by omega)
   rintro e w63 ⟨rfl, RE⟩
   replace O := OwnT.ext O RE
   refine ⟨_, rfl, ?_⟩
   intro a62 hE e34 kp
   replace e30 := kt kp e30
   refine sd 35 hE k (Z6v (l := l) (m := List.replicate (q - n) 32) rfl e30 e34 (by rw [List.length_replicate]; omega)) ?_
   intro a64 hE e35 kp
   refine sd 4 hE k (Z01 rfl e35) ?_
   intro a65 hE e4 kp
   refine wpList_nil ?_
   replace k := k.env hE
   clear hE e0 e1 e5 e12 e13 e14
   refine Z00 ?_
   refine wp_ret ?_
   refine Z0b rfl k e4 ?_
   exact ⟨by rw [hn.end_ hlt hpos], O.below⟩
end Go.Proofs.YtgdlnfljfiageaaDoor
