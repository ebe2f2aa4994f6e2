/- trees: slices.Replace of one pair by none, one or two: all its ways in one. -/
import Derived.Test.YtngehbhhpkkijaaKTreeBuilds17
import Derived.Test.YtngehbhhpkkijaaKTreeBuilds16
namespace Go.Proofs.Ytngehbhhpkkijaa
set_option linter.unusedVariables false
set_option linter.unusedSimpArgs false
open Go.RowKit Go.Maps

theorem Z5g {α : Type} {L c : List α} {o : Nat} (h : o ≤ L.length) : ((splice L o c).drop o).take c.length = c := by
  unfold splice
  rw [List.drop_append_of_le_length (by rw [List.length_take]; omega), List.drop_of_length_le (by rw [List.length_take]; omega), List.nil_append, List.take_append_of_le_length (Nat.le_refl _), List.take_of_length_le (Nat.le_refl _)]
theorem Z2e (a b : List Pr) : flatP (a ++ b) = flatP a ++ flatP b := by simp [flatP]
theorem Z3x (xs : List Pr) (i : Nat) : flatP (xs.take i) = (flatP xs).take (i * 2) := by
  by_cases h : i ≤ xs.length
  · have e : flatP xs = flatP (xs.take i) ++ flatP (xs.drop i) := by rw [← Z2e, List.take_append_drop]
    conv => rhs; rw [e, List.take_append_of_le_length (by rw [Z0w, List.length_take]; omega), List.take_of_length_le (by rw [Z0w, List.length_take]; omega)]
  · rw [List.take_of_length_le (by omega), List.take_of_length_le (by rw [Z0w]; omega)]
theorem Z3y (xs : List Pr) (i : Nat) : flatP (xs.drop i) = (flatP xs).drop (i * 2) := by
  by_cases h : i ≤ xs.length
  · have e : flatP xs = flatP (xs.take i) ++ flatP (xs.drop i) := by rw [← Z2e, List.take_append_drop]
    conv => rhs; rw [e, List.drop_append_of_le_length (by rw [Z0w, List.length_take]; omega), List.drop_of_length_le (by rw [Z0w, List.length_take]; omega), List.nil_append]
  · rw [List.drop_of_length_le (by omega), List.drop_of_length_le (by rw [Z0w]; omega)]; rfl
theorem Z6k {xs es : List Pr} {i n m : Nat} (hx : xs.length = n) (hi : i < n) (he : es.length = m) : flatP (xs.take i ++ es ++ xs.drop (i + 1)) = (flatP xs).take (i * 2) ++ flatP es ++ (flatP xs).drop ((i + 1) * 2) ∧ (xs.take i ++ es ++ xs.drop (i + 1)).length = n - 1 + m := by
  refine ⟨by rw [Z2e, Z2e, Z3x, Z3y], ?_⟩
  simp only [List.length_append, List.length_take, List.length_drop]
  omega
theorem Z5j {H : Nat} {A : World} {R : List Thing} (v o : Value) (i : Nat) (xs es : List Pr) (w : World) (O : OwnT H A (tPs v xs :: tPs o es :: R) w) (hi : i < xs.length) (hx : xs.length ≤ 1000) (hes : es.length ≤ 2) :
    Calls Try.prog 77 #[v, .int .i64 i, .int .i64 ((i : Int) + 1), o] w fun e w' => ∃ v', e = .returned v' ∧ OwnT H A (tPs v' (xs.take i ++ es ++ xs.drop (i + 1)) :: tPs o es :: R) w' := by
  obtain ⟨n, hn⟩ : ∃ n, xs.length = n := ⟨_, rfl⟩
  obtain ⟨m, hm⟩ : ∃ m, es.length = m := ⟨_, rfl⟩
  obtain ⟨hf, hl⟩ := Z6k (i := i) hn (by omega) hm
  have hfl : (flatP xs).length = n * 2 := by rw [Z0w, hn]
  have hel : (flatP es).length = m * 2 := by rw [Z0w, hm]
  have O0 : OwnT H A (tRow 38 2 v n (flatP xs) :: tPs o es :: R) w := by rw [← hn]; exact O
  obtain ⟨g, cap, cur, rfl, h1, h2, h3, h4, OB⟩ := O0.rowBlk (by omega)
  obtain ⟨Bo, co, rfl, ho1, ho2, -, -⟩ := Z0r (OwnT.t1 O)
  rw [hm] at O OB ⊢
  have hgo : ∀ vb, Bo = some ⟨vb, 0, none⟩ → vb ≠ g := fun vb e he => by
    subst e he
    have := (List.pairwise_cons.1 OB.diff).1 (tPs (.slice (some ⟨vb, 0, none⟩) m co) es) (by simp) vb (by simp [tBlk])
    exact this (by simp [tRow, Value.ownBlock])
  -- the other row's block
  have hblk : 0 < m → ∀ G W, OwnT H A (G ++ (tPs (.slice Bo m co) es :: R)) W → ∃ vb cv, Bo = some ⟨vb, 0, none⟩ ∧ vb ≠ g ∧ (Blk W vb 38 cv ∧ cv.size ≠ 0) ∧ ∀ j u, (flatP es)[j]? = some u → W.cell? ((⟨vb, 0, none⟩ : Addr).add j) = some u := by
    intro hm0 G W hO
    have hr : (tPs (.slice Bo m co) es).holds W := hO.all.mem (by simp)
    obtain ⟨vb, cap', cv, e1, hb, q1, _, q3, q4⟩ := Z17 hr (by omega)
    injection e1 with e1 _ e3
    subst e1
    refine ⟨vb, cv, rfl, hgo vb rfl, ⟨hb, by omega⟩, ?_⟩
    have hb2 : Blk W vb 38 cv.toList.toArray := by simpa using hb
    exact Z2y hb2 (by rw [List.drop_zero, hel, ← hm]; exact q4)
  have hc : (cur.drop ((i + 1) * 2)).take ((flatP xs).drop ((i + 1) * 2)).length = (flatP xs).drop ((i + 1) * 2) := by
    rw [List.length_drop, hfl, ← h4, List.drop_take]
  have hdl : ((flatP xs).drop ((i + 1) * 2)).length = (n - (i + 1)) * 2 := by rw [List.length_drop, hfl]; omega
  have hd1 : ∀ u ∈ (flatP xs).drop ((i + 1) * 2), u.oneCell' = true := fun u hu => Z1l xs u (List.mem_of_mem_drop hu)
  have hct : cur.take (i * 2) = (flatP xs).take (i * 2) := by rw [← h4, List.take_take, Nat.min_eq_left (by omega)]
  have fin : ∀ (v' : Value) (W : World), OwnT H A (tRow 38 2 v' (n - 1 + m) ((flatP xs).take (i * 2) ++ flatP es ++ (flatP xs).drop ((i + 1) * 2)) :: tPs (.slice Bo m co) es :: R) W → OwnT H A (tPs v' (xs.take i ++ es ++ xs.drop (i + 1)) :: tPs (.slice Bo m co) es :: R) W := fun v' W h => by
    show OwnT H A (tRow 38 2 v' (xs.take i ++ es ++ xs.drop (i + 1)).length (flatP (xs.take i ++ es ++ xs.drop (i + 1))) :: _) W
    rw [hf, hl]
    exact h
  have hsrc1 : 0 < m → ∀ W cur', OwnT H A (tBlk g 38 cur' :: tPs (.slice Bo m co) es :: R) W → ∃ p, Bo = some p ∧ ∀ j u, (flatP es)[j]? = some u → W.cell? (p.add j) = some u := fun hm0 W cur' hO => by
    obtain ⟨vb, cv, e, _, _, h⟩ := hblk hm0 [_] W hO
    exact ⟨_, e, h⟩
  by_cases hend : i + 1 = n
  · have hdn : (flatP xs).drop ((i + 1) * 2) = [] := List.drop_of_length_le (by omega)
    by_cases hm0 : m = 0
    · refine (rep_end0 (e := []) (d := []) w OB h1 h2 (by omega) h3 hm0 hend).mono ?_
      rintro e w' ⟨rfl, z, hz, h⟩
      refine ⟨_, rfl, fin _ _ ?_⟩
      have he0 : flatP es = [] := List.eq_nil_of_length_eq_zero (by omega)
      rw [hdn, he0, List.append_nil, List.append_nil, show n - 1 + m = i by omega]
      exact h.blkRow (by omega) h2 (by rw [length_splice _ _ _ (by omega)]; exact h3) (by rw [Z26 (Nat.le_refl _) (by omega)]; exact hct)
    · refine (rep_endm (d := []) w OB h1 h2 (by omega) h3 hel (Z1l es) (hsrc1 (by omega)) (by omega) hend).mono ?_
      rintro e w' ⟨v', rfl, h⟩
      refine ⟨_, rfl, fin _ _ ?_⟩
      rw [hdn, List.append_nil, ← hct, show n - 1 + m = i + m by omega]
      exact h
  · have hm2 : m = 0 ∨ m = 1 ∨ m = 2 := by omega
    rcases hm2 with hm0 | hm1 | hm2
    · refine (rep_mid0 (e := []) w OB h1 h2 (by omega) h3 hc hdl hd1 hm0 (by omega)).mono ?_
      rintro e w' ⟨rfl, z, hz, h⟩
      refine ⟨_, rfl, fin _ _ ?_⟩
      have he0 : flatP es = [] := List.eq_nil_of_length_eq_zero (by omega)
      have hl1 : (splice cur ((i + m) * 2) ((flatP xs).drop ((i + 1) * 2))).length = cap * 2 := by rw [length_splice _ _ _ (by omega), h3]
      rw [he0, List.append_nil]
      refine h.blkRow (by omega) h2 (by rw [length_splice _ _ _ (by omega)]; exact hl1) ?_
      rw [Z26 (by omega) (by omega), show (n - 1 + m) * 2 = (i + m) * 2 + ((flatP xs).drop ((i + 1) * 2)).length by omega, Z2g (by omega), show (i + m) * 2 = i * 2 by omega, hct]
    · refine (rep_mid1 w OB h1 h2 (by omega) h3 hel (Z1l es) (hsrc1 (by omega)) hc hdl hd1 hm1 (by omega)).mono ?_
      rintro e w' ⟨rfl, h⟩
      refine ⟨_, rfl, fin _ _ ?_⟩
      have hl1 : (splice cur (i * 2) (flatP es)).length = cap * 2 := by rw [length_splice _ _ _ (by omega), h3]
      refine h.blkRow (by omega) h2 (by rw [length_splice _ _ _ (by omega)]; exact hl1) ?_
      rw [show (n - 1 + m) * 2 = (i + m) * 2 + ((flatP xs).drop ((i + 1) * 2)).length by omega, Z2g (by omega), show (i + m) * 2 = i * 2 + (flatP es).length by omega, Z2g (by omega), hct]
    · by_cases hroom : n < cap
      · refine (rep_mid2 w OB h1 h2 (by omega) h3 hel (Z1l es) (hblk (by omega)) hc hdl hd1 hm2 (by omega) hroom).mono ?_
        rintro e w' ⟨rfl, h⟩
        refine ⟨_, rfl, fin _ _ ?_⟩
        have hl1 : (splice cur ((i + m) * 2) ((flatP xs).drop ((i + 1) * 2))).length = cap * 2 := by rw [length_splice _ _ _ (by omega), h3]
        refine h.blkRow (by omega) h2 (by rw [length_splice _ _ _ (by omega)]; exact hl1) ?_
        have e1 : (n - 1 + m) * 2 = (i * 2 + (flatP es).length) + ((flatP xs).drop ((i + 1) * 2)).length := by omega
        rw [e1, List.take_add, Z2g (by omega), Z61 (by omega), Z26 (by omega) (by omega), hct]
        congr 1
        rw [show i * 2 + (flatP es).length = (i + m) * 2 by omega]
        exact Z5g (by omega)
      · refine (rep_grow w OB h1 h2 (by omega) h3 hel (Z1l es) (hblk (by omega)) hc hdl hd1 hm2 (by omega) (by omega)).mono ?_
        rintro e w' ⟨g2, cap2, C, rfl, q1, q2, q3, q4, h⟩
        refine ⟨_, rfl, fin _ _ ?_⟩
        have hl1 : (splice C (i * 2) (flatP es)).length = cap2 * 2 := by rw [length_splice _ _ _ (by omega), q3]
        refine h.blkRow (by omega) q2 (by rw [length_splice _ _ _ (by omega)]; exact hl1) ?_
        rw [show (n - 1 + m) * 2 = (i + m) * 2 + ((flatP xs).drop ((i + 1) * 2)).length by omega, Z2g (by omega), show (i + m) * 2 = i * 2 + (flatP es).length by omega, Z2g (by omega), q4, hct]
end Go.Proofs.Ytngehbhhpkkijaa

/- slices.Insert of one element: in whichever way, in the words of things. -/
namespace Go.Proofs.Ytngehbhhpkkijaa
set_option linter.unusedVariables false
set_option linter.unusedSimpArgs false
open Go.RowKit

theorem Z2f {α : Type} (L cs : List α) (o j : Nat) (h : o + cs.length ≤ L.length) : (splice L o cs)[j]? = if j < o then L[j]? else if j < o + cs.length then cs[j - o]? else L[j]? := by
  unfold splice
  by_cases h1 : j < o
  · rw [if_pos h1, List.getElem?_append_left (by rw [List.length_take]; omega), List.getElem?_take_of_lt h1]
  · rw [if_neg h1, List.getElem?_append_right (by rw [List.length_take]; omega), List.length_take, show min o L.length = o by omega]
    by_cases h2 : j < o + cs.length
    · rw [if_pos h2, List.getElem?_append_left (by omega)]
    · rw [if_neg h2, List.getElem?_append_right (by omega), List.getElem?_drop]
      congr 1
      omega
theorem Z7v {α : Type} (xs cs : List α) (p j : Nat) (h : p ≤ xs.length) : (xs.take p ++ (cs ++ xs.drop p))[j]? = if j < p then xs[j]? else if j < p + cs.length then cs[j - p]? else xs[j - cs.length]? := by
  by_cases h1 : j < p
  · rw [if_pos h1, List.getElem?_append_left (by rw [List.length_take]; omega), List.getElem?_take_of_lt h1]
  · rw [if_neg h1, List.getElem?_append_right (by rw [List.length_take]; omega), List.length_take, show min p xs.length = p by omega]
    by_cases h2 : j < p + cs.length
    · rw [if_pos h2, List.getElem?_append_left (by omega)]
    · rw [if_neg h2, List.getElem?_append_right (by omega), List.getElem?_drop]
      congr 1
      omega
/-- In place. -/
theorem Z7b {α : Type} {cur cs xs : List α} {i n cap : Nat} (hcur : cur.length = cap * 2) (hx : cur.take (n * 2) = xs) (hi : i < n) (hroom : n + 1 ≤ cap) (hcs : cs.length = 2) :
    (splice (splice cur ((i + 1) * 2) ((cur.take (n * 2)).drop (i * 2))) (i * 2) cs).take ((n + 1) * 2) = xs.take (i * 2) ++ (cs ++ xs.drop (i * 2)) := by
  have hxl : xs.length = n * 2 := by rw [← hx, List.length_take]; omega
  have hml : (xs.drop (i * 2)).length = (n - i) * 2 := by rw [List.length_drop, hxl]; omega
  have hs1 : (splice cur ((i + 1) * 2) (xs.drop (i * 2))).length = cap * 2 := by rw [length_splice _ _ _ (by omega), hcur]
  rw [hx]
  apply List.ext_getElem?
  intro j
  rw [Z7v _ _ _ _ (by omega)]
  by_cases hj : j < (n + 1) * 2
  · rw [List.getElem?_take_of_lt hj, Z2f _ _ _ _ (by omega), Z2f _ _ _ _ (by omega)]
    by_cases h1 : j < i * 2
    · rw [if_pos h1, if_pos (by omega), if_pos h1, ← hx, List.getElem?_take_of_lt (by omega)]
    · rw [if_neg h1, if_neg h1]
      by_cases h2 : j < i * 2 + cs.length
      · rw [if_pos h2, if_pos h2]
      · rw [if_neg h2, if_neg h2, if_neg (by omega), if_pos (by omega), List.getElem?_drop]
        congr 1
        omega
  · rw [List.getElem?_eq_none (by rw [List.length_take]; omega), if_neg (by omega), if_neg (by omega), List.getElem?_eq_none (by omega)]
/-- A new row. -/
theorem Z7c {α : Type} {cur cs xs L0 : List α} {i n cap cap' : Nat} (hcur : cur.length = cap * 2) (hnc : n ≤ cap) (hx : cur.take (n * 2) = xs) (hi : i < n) (hroom : n + 1 ≤ cap') (hcs : cs.length = 2) (hL : L0.length = cap' * 2) (hL0 : L0.take (i * 2) = cur.take (i * 2)) :
    (splice (splice L0 (i * 2) cs) ((i + 1) * 2) ((cur.take (n * 2)).drop (i * 2))).take ((n + 1) * 2) = xs.take (i * 2) ++ (cs ++ xs.drop (i * 2)) ∧ (splice (splice L0 (i * 2) cs) ((i + 1) * 2) ((cur.take (n * 2)).drop (i * 2))).length = cap' * 2 := by
  have hxl : xs.length = n * 2 := by rw [← hx, List.length_take]; omega
  have hml : (xs.drop (i * 2)).length = (n - i) * 2 := by rw [List.length_drop, hxl]; omega
  have hs1 : (splice L0 (i * 2) cs).length = cap' * 2 := by rw [length_splice _ _ _ (by omega), hL]
  rw [hx]
  refine ⟨?_, by rw [length_splice _ _ _ (by omega), hs1]⟩
  apply List.ext_getElem?
  intro j
  rw [Z7v _ _ _ _ (by omega)]
  by_cases hj : j < (n + 1) * 2
  · rw [List.getElem?_take_of_lt hj, Z2f _ _ _ _ (by omega), Z2f _ _ _ _ (by omega)]
    by_cases h1 : j < i * 2
    · rw [if_pos (by omega), if_pos h1, if_pos h1, ← hx, List.getElem?_take_of_lt (by omega)]
      have e1 : (L0.take (i * 2))[j]? = (cur.take (i * 2))[j]? := by rw [hL0]
      rw [List.getElem?_take_of_lt h1, List.getElem?_take_of_lt h1] at e1
      exact e1
    · by_cases h2 : j < i * 2 + cs.length
      · simp only [if_pos (show j < (i + 1) * 2 by omega), if_neg h1, if_pos h2]
      · simp only [if_neg h1, if_neg h2, if_neg (show ¬ j < (i + 1) * 2 by omega), if_pos (show j < (i + 1) * 2 + (xs.drop (i * 2)).length by omega), List.getElem?_drop]
        congr 1
        omega
  · rw [List.getElem?_eq_none (by rw [List.length_take]; omega), if_neg (by omega), if_neg (by omega), List.getElem?_eq_none (by omega)]

set_option maxRecDepth 100000 in
set_option maxHeartbeats 4000000 in
/-- At the end. -/
theorem Z6t (v : Value) (n vb : Nat) (xs cs : List Value) (w : World) (hr : w.ownsRow 0 38 2 v n xs) (hv : Blk w vb 38 cs.toArray) (hn : n ≤ 1000000000000) (hcs : cs.length = 2) (h2 : ∀ u ∈ cs, u.oneCell' = true) :
    Calls Try.prog 78 #[v, .int .i64 n, .slice (some ⟨vb, 0, none⟩) 1 1] w fun e w' => ∃ v',
      e = .returned v' ∧ w'.ownsRow 0 38 2 v' (n + 1) (xs ++ cs) ∧ w.grownBy w' v.ownBlock ∧ (v'.ownBlock = v.ownBlock ∨ ∃ k, v'.ownBlock = some k ∧ w.heap.size ≤ k) := by
  obtain ⟨ti, hi0, hz, hsz, hby⟩ := Z22
  have hcc : ∀ j u, cs[j]? = some u → w.cell? ((⟨vb, 0, none⟩ : Addr).add j) = some u := fun j u hj => by
    have hadd : (⟨vb, 0, none⟩ : Addr).add j = ⟨vb, j, none⟩ := by unfold Addr.add; split <;> simp_all
    rw [hadd, hv.cell]
    simpa using hj
  have hap := fun ty => Z1n (P := Try.prog) w 29 ty 38 ti zPair 2 16 Try.underlying29 hi0 hz hsz hby rfl (by omega) v n xs hr ⟨vb, 0, none⟩ 1 1 cs (by omega) hcc h2 (by unfold maxLen; omega) (by omega)
  obtain ⟨v', w', hrun, hr', hgr, hfresh⟩ := hap 29
  have HF := Lib.hid (And.intro hr' (And.intro hgr hfresh))
  have hmax : n + 1 ≤ maxLen := by unfold maxLen; omega
  have hsl : v = .slice none 0 0 ∧ n = 0 ∨ ∃ g cap, v = .slice (some ⟨g, 0, none⟩) n cap ∧ n ≤ cap ∧ cap ≤ maxLen := by
    rcases hr.2 with h | ⟨g, cap, cur, h, _, _, h3, h4, _⟩
    · exact .inl h
    · exact .inr ⟨g, cap, h, h3, h4⟩
  have HR := Lib.hid hrun
  clear hap hcc hr' hgr hfresh hrun hr hv h2
  rcases hsl with ⟨rfl, rfl⟩ | ⟨g, cap, rfl, hnc, hcm⟩
  · go_enter Try.func78, Try.ntmps78
    go_wp2_with (at_builtin; go_must (refine Z0o (o := ⟨some 25, _, _, _, _, _⟩) rfl _ _ _ _ rfl _ _ rfl rfl HR.out ?_))
    go_ret
    exact ⟨v', rfl, HF.out⟩
  · unfold maxLen at hcm hmax
    by_cases hcn : cap = n
    · subst hcn
      go_enter Try.func78, Try.ntmps78
      go_wp2_with (at_builtin; go_must (refine Z0o (o := ⟨some 25, _, _, _, _, _⟩) rfl _ _ _ _ rfl _ _ rfl rfl HR.out ?_))
      go_ret
      exact ⟨v', rfl, HF.out⟩
    · go_enter Try.func78, Try.ntmps78
      go_wp2_with (at_builtin; go_must (refine Z0o (o := ⟨some 25, _, _, _, _, _⟩) rfl _ _ _ _ rfl _ _ rfl rfl HR.out ?_))
      go_ret
      exact ⟨v', rfl, HF.out⟩

theorem Z6u {H : Nat} {A : World} {R : List Thing} (v : Value) (n i vb : Nat) (xs cs : List Value) (w : World) (hO : OwnT H A (tRow 38 2 v n xs :: tBlk vb 38 cs.toArray :: R) w) (hi : i ≤ n) (hn : n ≤ 1000000000000) (hcs : cs.length = 2)
    (h1 : ∀ u ∈ xs, u.oneCell' = true) (h2 : ∀ u ∈ cs, u.oneCell' = true) :
    Calls Try.prog 78 #[v, .int .i64 i, .slice (some ⟨vb, 0, none⟩) 1 1] w fun e w' => ∃ v',
      e = .returned v' ∧ OwnT H A (tRow 38 2 v' (n + 1) (xs.take (i * 2) ++ (cs ++ xs.drop (i * 2))) :: tBlk vb 38 cs.toArray :: R) w' := by
  have hr := hO.r0
  have hv := hO.b1
  have hxl := hr.1
  by_cases hin : i = n
  · subst hin
    refine (Z6t v i vb xs cs w hr hv hn hcs h2).mono ?_
    rintro e w' ⟨v', rfl, h3, h4, h5⟩
    rw [List.take_of_length_le (by omega), List.drop_of_length_le (by omega), List.append_nil]
    exact ⟨v', rfl, hO.row h3 h4 h5⟩
  · obtain ⟨g, cap, cur, rfl, hg, hnc, hcm, hcur, hx⟩ := Z17 hr (by omega)
    have hne : vb ≠ g := fun e => by
      have := (List.pairwise_cons.1 hO.diff).1 (tBlk vb 38 cs.toArray) (by simp) g (by simp [tRow, Value.ownBlock])
      simp [tBlk, e] at this
    have h1' : ∀ u ∈ cur.toList.take (n * 2), u.oneCell' = true := by rw [hx]; exact h1
    have hcl : cur.toList.length = cap * 2 := by rw [Array.length_toList, hcur]
    by_cases hroom : n + 1 ≤ cap
    · refine (Z5q g n cap i vb cur cs w hg hv hne (by omega) hroom hcm hcur hcs h1' h2).mono ?_
      rintro e w' ⟨rfl, h3, h4⟩
      refine ⟨_, rfl, hO.row (Z62 h3 hroom hcm ?_ ?_) h4.grown (.inl rfl)⟩
      · have := length_splice cur.toList ((i + 1) * 2) ((cur.toList.take (n * 2)).drop (i * 2)) (by rw [List.length_drop, List.length_take]; omega)
        rw [List.size_toArray, length_splice _ _ _ (by omega), this, hcl]
      · simpa using Z7b hcl hx (by omega) hroom hcs
    · refine (Z5r g n cap i vb cur cs w hg hv (by omega) hnc (by omega) hn hcur hcs h1' h2).mono ?_
      rintro e w' ⟨cap', L0, rfl, h3, h4, h5, h6, h7, h8⟩
      obtain ⟨ht, hl⟩ := Z7c hcl hnc hx (by omega) h3 hcs h5 h6
      refine ⟨_, rfl, hO.row (Z62 h7 h3 h4 (by simpa using hl) (by simpa using ht)) (Z27 h8 _) (.inr ⟨_, rfl, Nat.le_refl _⟩)⟩
end Go.Proofs.Ytngehbhhpkkijaa
