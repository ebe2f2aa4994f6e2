/- trees: slices.Replace of one pair by none, one or two: all its ways in one. -/
import Derived.Test.YtbfgacmfjfbooaaKReachExact10
import Derived.Test.YtbfgacmfjfbooaaKReachExact09
namespace Go.Proofs.Ytbfgacmfjfbooaa
set_option linter.unusedVariables false
set_option linter.unusedSimpArgs false
open Go.RowKit Go.Maps

theorem Z6s {α : Type} {L c : List α} {o : Nat} (h : o ≤ L.length) : ((splice L o c).drop o).take c.length = c := by
  unfold splice
  rw [List.drop_append_of_le_length (by rw [List.length_take]; omega), List.drop_of_length_le (by rw [List.length_take]; omega), List.nil_append, List.take_append_of_le_length (Nat.le_refl _), List.take_of_length_le (Nat.le_refl _)]
theorem Z2f (a b : List Pr) : flatP (a ++ b) = flatP a ++ flatP b := by simp [flatP]
theorem Z4m (xs : List Pr) (i : Nat) : flatP (xs.take i) = (flatP xs).take (i * 2) := by
  by_cases h : i ≤ xs.length
  · have e : flatP xs = flatP (xs.take i) ++ flatP (xs.drop i) := by rw [← Z2f, List.take_append_drop]
    conv => rhs; rw [e, List.take_append_of_le_length (by rw [Z0t, List.length_take]; omega), List.take_of_length_le (by rw [Z0t, List.length_take]; omega)]
  · rw [List.take_of_length_le (by omega), List.take_of_length_le (by rw [Z0t]; omega)]
theorem Z4n (xs : List Pr) (i : Nat) : flatP (xs.drop i) = (flatP xs).drop (i * 2) := by
  by_cases h : i ≤ xs.length
  · have e : flatP xs = flatP (xs.take i) ++ flatP (xs.drop i) := by rw [← Z2f, List.take_append_drop]
    conv => rhs; rw [e, List.drop_append_of_le_length (by rw [Z0t, List.length_take]; omega), List.drop_of_length_le (by rw [Z0t, List.length_take]; omega), List.nil_append]
  · rw [List.drop_of_length_le (by omega), List.drop_of_length_le (by rw [Z0t]; omega)]; rfl
theorem rows_three {xs es : List Pr} {i n m : Nat} (hx : xs.length = n) (hi : i < n) (he : es.length = m) : flatP (xs.take i ++ es ++ xs.drop (i + 1)) = (flatP xs).take (i * 2) ++ flatP es ++ (flatP xs).drop ((i + 1) * 2) ∧ (xs.take i ++ es ++ xs.drop (i + 1)).length = n - 1 + m := by
  refine ⟨by rw [Z2f, Z2f, Z4m, Z4n], ?_⟩
  simp only [List.length_append, List.length_take, List.length_drop]
  omega
theorem Z6v {H : Nat} {A : World} {R : List Thing} (v o : Value) (i : Nat) (xs es : List Pr) (w : World) (O : OwnT H A (tPs v xs :: tPs o es :: R) w) (hi : i < xs.length) (hx : xs.length ≤ 1000) (hes : es.length ≤ 2) :
    Calls Try.prog 91 #[v, .int .i64 i, .int .i64 ((i : Int) + 1), o] w fun e w' => ∃ v', e = .returned v' ∧ OwnT H A (tPs v' (xs.take i ++ es ++ xs.drop (i + 1)) :: tPs o es :: R) w' := by
  obtain ⟨n, hn⟩ : ∃ n, xs.length = n := ⟨_, rfl⟩
  obtain ⟨m, hm⟩ : ∃ m, es.length = m := ⟨_, rfl⟩
  obtain ⟨hf, hl⟩ := rows_three (i := i) hn (by omega) hm
  have hfl : (flatP xs).length = n * 2 := by rw [Z0t, hn]
  have hel : (flatP es).length = m * 2 := by rw [Z0t, hm]
  have O0 : OwnT H A (tRow 103 2 v n (flatP xs) :: tPs o es :: R) w := by rw [← hn]; exact O
  obtain ⟨g, cap, cur, rfl, h1, h2, h3, h4, OB⟩ := O0.rowBlk (by omega)
  obtain ⟨Bo, co, rfl, ho1, ho2, -, -⟩ := Z0x (OwnT.t1 O)
  rw [hm] at O OB ⊢
  have hgo : ∀ vb, Bo = some ⟨vb, 0, none⟩ → vb ≠ g := fun vb e he => by
    subst e he
    have := (List.pairwise_cons.1 OB.diff).1 (tPs (.slice (some ⟨vb, 0, none⟩) m co) es) (by simp) vb (by simp [tBlk])
    exact this (by simp [tRow, Value.ownBlock])
  -- the other row's block
  have hblk : 0 < m → ∀ G W, OwnT H A (G ++ (tPs (.slice Bo m co) es :: R)) W → ∃ vb cv, Bo = some ⟨vb, 0, none⟩ ∧ vb ≠ g ∧ (Blk W vb 103 cv ∧ cv.size ≠ 0) ∧ ∀ j u, (flatP es)[j]? = some u → W.cell? ((⟨vb, 0, none⟩ : Addr).add j) = some u := by
    intro hm0 G W hO
    have hr : (tPs (.slice Bo m co) es).holds W := hO.all.mem (by simp)
    obtain ⟨vb, cap', cv, e1, hb, q1, _, q3, q4⟩ := Z18 hr (by omega)
    injection e1 with e1 _ e3
    subst e1
    refine ⟨vb, cv, rfl, hgo vb rfl, ⟨hb, by omega⟩, ?_⟩
    have hb2 : Blk W vb 103 cv.toList.toArray := by simpa using hb
    exact Z3c hb2 (by rw [List.drop_zero, hel, ← hm]; exact q4)
  have hc : (cur.drop ((i + 1) * 2)).take ((flatP xs).drop ((i + 1) * 2)).length = (flatP xs).drop ((i + 1) * 2) := by
    rw [List.length_drop, hfl, ← h4, List.drop_take]
  have hdl : ((flatP xs).drop ((i + 1) * 2)).length = (n - (i + 1)) * 2 := by rw [List.length_drop, hfl]; omega
  have hd1 : ∀ u ∈ (flatP xs).drop ((i + 1) * 2), u.oneCell' = true := fun u hu => Z1m xs u (List.mem_of_mem_drop hu)
  have hct : cur.take (i * 2) = (flatP xs).take (i * 2) := by rw [← h4, List.take_take, Nat.min_eq_left (by omega)]
  have fin : ∀ (v' : Value) (W : World), OwnT H A (tRow 103 2 v' (n - 1 + m) ((flatP xs).take (i * 2) ++ flatP es ++ (flatP xs).drop ((i + 1) * 2)) :: tPs (.slice Bo m co) es :: R) W → OwnT H A (tPs v' (xs.take i ++ es ++ xs.drop (i + 1)) :: tPs (.slice Bo m co) es :: R) W := fun v' W h => by
    show OwnT H A (tRow 103 2 v' (xs.take i ++ es ++ xs.drop (i + 1)).length (flatP (xs.take i ++ es ++ xs.drop (i + 1))) :: _) W
    rw [hf, hl]
    exact h
  have hsrc1 : 0 < m → ∀ W cur', OwnT H A (tBlk g 103 cur' :: tPs (.slice Bo m co) es :: R) W → ∃ p, Bo = some p ∧ ∀ j u, (flatP es)[j]? = some u → W.cell? (p.add j) = some u := fun hm0 W cur' hO => by
    obtain ⟨vb, cv, e, _, _, h⟩ := hblk hm0 [_] W hO
    exact ⟨_, e, h⟩
  by_cases hend : i + 1 = n
  · have hdn : (flatP xs).drop ((i + 1) * 2) = [] := List.drop_of_length_le (by omega)
    by_cases hm0 : m = 0
    · refine (rep_end0 (e := []) (d := []) w OB h1 h2 (by omega) h3 hm0 hend).mono ?_
      rintro e w' ⟨rfl, z, hz, h⟩
      refine ⟨_, rfl, fin _ _ ?_⟩
      have he0 : flatP es = [] := List.eq_nil_of_length_eq_zero (by omega)
      rw [hdn, he0, List.append_nil, List.append_nil, show n - 1 + m = i by omega]
      exact h.blkRow (by omega) h2 (by rw [length_splice _ _ _ (by omega)]; exact h3) (by rw [Z2p (Nat.le_refl _) (by omega)]; exact hct)
    · refine (rep_endm (d := []) w OB h1 h2 (by omega) h3 hel (Z1m es) (hsrc1 (by omega)) (by omega) hend).mono ?_
      rintro e w' ⟨v', rfl, h⟩
      refine ⟨_, rfl, fin _ _ ?_⟩
      rw [hdn, List.append_nil, ← hct, show n - 1 + m = i + m by omega]
      exact h
  · have hm2 : m = 0 ∨ m = 1 ∨ m = 2 := by omega
    rcases hm2 with hm0 | hm1 | hm2
    · refine (rep_mid0 (e := []) w OB h1 h2 (by omega) h3 hc hdl hd1 hm0 (by omega)).mono ?_
      rintro e w' ⟨rfl, z, hz, h⟩
      refine ⟨_, rfl, fin _ _ ?_⟩
      have he0 : flatP es = [] := List.eq_nil_of_length_eq_zero (by omega)
      have hl1 : (splice cur ((i + m) * 2) ((flatP xs).drop ((i + 1) * 2))).length = cap * 2 := by rw [length_splice _ _ _ (by omega), h3]
      rw [he0, List.append_nil]
      refine h.blkRow (by omega) h2 (by rw [length_splice _ _ _ (by omega)]; exact hl1) ?_
      rw [Z2p (by omega) (by omega), show (n - 1 + m) * 2 = (i + m) * 2 + ((flatP xs).drop ((i + 1) * 2)).length by omega, Z2k (by omega), show (i + m) * 2 = i * 2 by omega, hct]
    · refine (rep_mid1 w OB h1 h2 (by omega) h3 hel (Z1m es) (hsrc1 (by omega)) hc hdl hd1 hm1 (by omega)).mono ?_
      rintro e w' ⟨rfl, h⟩
      refine ⟨_, rfl, fin _ _ ?_⟩
      have hl1 : (splice cur (i * 2) (flatP es)).length = cap * 2 := by rw [length_splice _ _ _ (by omega), h3]
      refine h.blkRow (by omega) h2 (by rw [length_splice _ _ _ (by omega)]; exact hl1) ?_
      rw [show (n - 1 + m) * 2 = (i + m) * 2 + ((flatP xs).drop ((i + 1) * 2)).length by omega, Z2k (by omega), show (i + m) * 2 = i * 2 + (flatP es).length by omega, Z2k (by omega), hct]
    · by_cases hroom : n < cap
      · refine (rep_mid2 w OB h1 h2 (by omega) h3 hel (Z1m es) (hblk (by omega)) hc hdl hd1 hm2 (by omega) hroom).mono ?_
        rintro e w' ⟨rfl, h⟩
        refine ⟨_, rfl, fin _ _ ?_⟩
        have hl1 : (splice cur ((i + m) * 2) ((flatP xs).drop ((i + 1) * 2))).length = cap * 2 := by rw [length_splice _ _ _ (by omega), h3]
        refine h.blkRow (by omega) h2 (by rw [length_splice _ _ _ (by omega)]; exact hl1) ?_
        have e1 : (n - 1 + m) * 2 = (i * 2 + (flatP es).length) + ((flatP xs).drop ((i + 1) * 2)).length := by omega
        rw [e1, List.take_add, Z2k (by omega), Z7l (by omega), Z2p (by omega) (by omega), hct]
        congr 1
        rw [show i * 2 + (flatP es).length = (i + m) * 2 by omega]
        exact Z6s (by omega)
      · refine (rep_grow w OB h1 h2 (by omega) h3 hel (Z1m es) (hblk (by omega)) hc hdl hd1 hm2 (by omega) (by omega)).mono ?_
        rintro e w' ⟨g2, cap2, C, rfl, q1, q2, q3, q4, h⟩
        refine ⟨_, rfl, fin _ _ ?_⟩
        have hl1 : (splice C (i * 2) (flatP es)).length = cap2 * 2 := by rw [length_splice _ _ _ (by omega), q3]
        refine h.blkRow (by omega) q2 (by rw [length_splice _ _ _ (by omega)]; exact hl1) ?_
        rw [show (n - 1 + m) * 2 = (i + m) * 2 + ((flatP xs).drop ((i + 1) * 2)).length by omega, Z2k (by omega), show (i + m) * 2 = i * 2 + (flatP es).length by omega, Z2k (by omega), q4, hct]
open Go.RowKit

theorem Z2j {α : Type} (L cs : List α) (o j : Nat) (h : o + cs.length ≤ L.length) : (splice L o cs)[j]? = if j < o then L[j]? else if j < o + cs.length then cs[j - o]? else L[j]? := by
  unfold splice
  by_cases h1 : j < o
  · rw [if_pos h1, List.getElem?_append_left (by rw [List.length_take]; omega), List.getElem?_take_of_lt h1]
  · rw [if_neg h1, List.getElem?_append_right (by rw [List.length_take]; omega), List.length_take, show min o L.length = o by omega]
    by_cases h2 : j < o + cs.length
    · rw [if_pos h2, List.getElem?_append_left (by omega)]
    · rw [if_neg h2, List.getElem?_append_right (by omega), List.getElem?_drop]
      congr 1
      omega
theorem ins_get {α : Type} (xs cs : List α) (p j : Nat) (h : p ≤ xs.length) : (xs.take p ++ (cs ++ xs.drop p))[j]? = if j < p then xs[j]? else if j < p + cs.length then cs[j - p]? else xs[j - cs.length]? := by
  by_cases h1 : j < p
  · rw [if_pos h1, List.getElem?_append_left (by rw [List.length_take]; omega), List.getElem?_take_of_lt h1]
  · rw [if_neg h1, List.getElem?_append_right (by rw [List.length_take]; omega), List.length_take, show min p xs.length = p by omega]
    by_cases h2 : j < p + cs.length
    · rw [if_pos h2, List.getElem?_append_left (by omega)]
    · rw [if_neg h2, List.getElem?_append_right (by omega), List.getElem?_drop]
      congr 1
      omega
/-- In place. -/
theorem take_room {α : Type} {cur cs xs : List α} {i n cap : Nat} (hcur : cur.length = cap * 2) (hx : cur.take (n * 2) = xs) (hi : i < n) (hroom : n + 1 ≤ cap) (hcs : cs.length = 2) :
    (splice (splice cur ((i + 1) * 2) ((cur.take (n * 2)).drop (i * 2))) (i * 2) cs).take ((n + 1) * 2) = xs.take (i * 2) ++ (cs ++ xs.drop (i * 2)) := by
  have hxl : xs.length = n * 2 := by rw [← hx, List.length_take]; omega
  have hml : (xs.drop (i * 2)).length = (n - i) * 2 := by rw [List.length_drop, hxl]; omega
  have hs1 : (splice cur ((i + 1) * 2) (xs.drop (i * 2))).length = cap * 2 := by rw [length_splice _ _ _ (by omega), hcur]
  rw [hx]
  apply List.ext_getElem?
  intro j
  rw [ins_get _ _ _ _ (by omega)]
  by_cases hj : j < (n + 1) * 2
  · rw [List.getElem?_take_of_lt hj, Z2j _ _ _ _ (by omega), Z2j _ _ _ _ (by omega)]
    by_cases h1 : j < i * 2
    · rw [if_pos h1, if_pos (by omega), if_pos h1, ← hx, List.getElem?_take_of_lt (by omega)]
    · rw [if_neg h1, if_neg h1]
      by_cases h2 : j < i * 2 + cs.length
      · rw [if_pos h2, if_pos h2]
      · rw [if_neg h2, if_neg h2, if_neg (by omega), if_pos (by omega), List.getElem?_drop]
        congr 1
        omega
  · rw [List.getElem?_eq_none (by rw [List.length_take]; omega), if_neg (by omega), if_neg (by omega), List.getElem?_eq_none (by omega)]
/-- A new row. -/
theorem take_grow {α : Type} {cur cs xs L0 : List α} {i n cap cap' : Nat} (hcur : cur.length = cap * 2) (hnc : n ≤ cap) (hx : cur.take (n * 2) = xs) (hi : i < n) (hroom : n + 1 ≤ cap') (hcs : cs.length = 2) (hL : L0.length = cap' * 2) (hL0 : L0.take (i * 2) = cur.take (i * 2)) :
    (splice (splice L0 (i * 2) cs) ((i + 1) * 2) ((cur.take (n * 2)).drop (i * 2))).take ((n + 1) * 2) = xs.take (i * 2) ++ (cs ++ xs.drop (i * 2)) ∧ (splice (splice L0 (i * 2) cs) ((i + 1) * 2) ((cur.take (n * 2)).drop (i * 2))).length = cap' * 2 := by
  have hxl : xs.length = n * 2 := by rw [← hx, List.length_take]; omega
  have hml : (xs.drop (i * 2)).length = (n - i) * 2 := by rw [List.length_drop, hxl]; omega
  have hs1 : (splice L0 (i * 2) cs).length = cap' * 2 := by rw [length_splice _ _ _ (by omega), hL]
  rw [hx]
  refine ⟨?_, by rw [length_splice _ _ _ (by omega), hs1]⟩
  apply List.ext_getElem?
  intro j
  rw [ins_get _ _ _ _ (by omega)]
  by_cases hj : j < (n + 1) * 2
  · rw [List.getElem?_take_of_lt hj, Z2j _ _ _ _ (by omega), Z2j _ _ _ _ (by omega)]
    by_cases h1 : j < i * 2
    · rw [if_pos (by omega), if_pos h1, if_pos h1, ← hx, List.getElem?_take_of_lt (by omega)]
      have e1 : (L0.take (i * 2))[j]? = (cur.take (i * 2))[j]? := by rw [hL0]
      rw [List.getElem?_take_of_lt h1, List.getElem?_take_of_lt h1] at e1
      exact e1
    · by_cases h2 : j < i * 2 + cs.length
      · simp only [if_pos (show j < (i + 1) * 2 by omega), if_neg h1, if_pos h2]
      · simp only [if_neg h1, if_neg h2, if_neg (show ¬ j < (i + 1) * 2 by omega), if_pos (show j < (i + 1) * 2 + (xs.drop (i * 2)).length by omega), List.getElem?_drop]
        congr 1
        omega
  · rw [List.getElem?_eq_none (by rw [List.length_take]; omega), if_neg (by omega), if_neg (by omega), List.getElem?_eq_none (by omega)]

set_option maxRecDepth 100000 in
set_option maxHeartbeats 4000000 in
/-- At the end. -/
theorem insert_end (v : Value) (n vb : Nat) (xs cs : List Value) (w : World) (hr : w.ownsRow 0 103 2 v n xs) (hv : Blk w vb 103 cs.toArray) (hn : n ≤ 1000000000000) (hcs : cs.length = 2) (h2 : ∀ u ∈ cs, u.oneCell' = true) :
    Calls Try.prog 92 #[v, .int .i64 n, .slice (some ⟨vb, 0, none⟩) 1 1] w fun e w' => ∃ v',
      e = .returned v' ∧ w'.ownsRow 0 103 2 v' (n + 1) (xs ++ cs) ∧ w.grownBy w' v.ownBlock ∧ (v'.ownBlock = v.ownBlock ∨ ∃ k, v'.ownBlock = some k ∧ w.heap.size ≤ k) := by
  obtain ⟨ti, hi0, hz, hsz, hby⟩ := Z2e
  have hcc : ∀ j u, cs[j]? = some u → w.cell? ((⟨vb, 0, none⟩ : Addr).add j) = some u := fun j u hj => by
    have hadd : (⟨vb, 0, none⟩ : Addr).add j = ⟨vb, j, none⟩ := by unfold Addr.add; split <;> simp_all
    rw [hadd, hv.cell]
    simpa using hj
  have hap := fun ty => Z1o (P := Try.prog) w 44 ty 103 ti zPair 2 16 Try.underlying44 hi0 hz hsz hby rfl (by omega) v n xs hr ⟨vb, 0, none⟩ 1 1 cs (by omega) hcc h2 (by unfold maxLen; omega) (by omega)
  obtain ⟨v', w', hrun, hr', hgr, hfresh⟩ := hap 44
  have HF := Lib.hid (And.intro hr' (And.intro hgr hfresh))
  have hmax : n + 1 ≤ maxLen := by unfold maxLen; omega
  have hsl : v = .slice none 0 0 ∧ n = 0 ∨ ∃ g cap, v = .slice (some ⟨g, 0, none⟩) n cap ∧ n ≤ cap ∧ cap ≤ maxLen := by
    rcases hr.2 with h | ⟨g, cap, cur, h, _, _, h3, h4, _⟩
    · exact .inl h
    · exact .inr ⟨g, cap, h, h3, h4⟩
  have HR := Lib.hid hrun
  clear hap hcc hr' hgr hfresh hrun hr hv h2
  rcases hsl with ⟨rfl, rfl⟩ | ⟨g, cap, rfl, hnc, hcm⟩
  · go_enter Try.func92, Try.ntmps92
    go_wp2_with (at_builtin; go_must (refine Z0m (o := ⟨some 25, _, _, _, _, _⟩) rfl _ _ _ _ rfl _ _ rfl rfl HR.out ?_))
    go_ret
    exact ⟨v', rfl, HF.out⟩
  · unfold maxLen at hcm hmax
    by_cases hcn : cap = n
    · subst hcn
      go_enter Try.func92, Try.ntmps92
      go_wp2_with (at_builtin; go_must (refine Z0m (o := ⟨some 25, _, _, _, _, _⟩) rfl _ _ _ _ rfl _ _ rfl rfl HR.out ?_))
      go_ret
      exact ⟨v', rfl, HF.out⟩
    · go_enter Try.func92, Try.ntmps92
      go_wp2_with (at_builtin; go_must (refine Z0m (o := ⟨some 25, _, _, _, _, _⟩) rfl _ _ _ _ rfl _ _ rfl rfl HR.out ?_))
      go_ret
      exact ⟨v', rfl, HF.out⟩

theorem insert_any {H : Nat} {A : World} {R : List Thing} (v : Value) (n i vb : Nat) (xs cs : List Value) (w : World) (hO : OwnT H A (tRow 103 2 v n xs :: tBlk vb 103 cs.toArray :: R) w) (hi : i ≤ n) (hn : n ≤ 1000000000000) (hcs : cs.length = 2)
    (h1 : ∀ u ∈ xs, u.oneCell' = true) (h2 : ∀ u ∈ cs, u.oneCell' = true) :
    Calls Try.prog 92 #[v, .int .i64 i, .slice (some ⟨vb, 0, none⟩) 1 1] w fun e w' => ∃ v',
      e = .returned v' ∧ OwnT H A (tRow 103 2 v' (n + 1) (xs.take (i * 2) ++ (cs ++ xs.drop (i * 2))) :: tBlk vb 103 cs.toArray :: R) w' := by
  have hr := hO.r0
  have hv := hO.b1
  have hxl := hr.1
  by_cases hin : i = n
  · subst hin
    refine (insert_end v i vb xs cs w hr hv hn hcs h2).mono ?_
    rintro e w' ⟨v', rfl, h3, h4, h5⟩
    rw [List.take_of_length_le (by omega), List.drop_of_length_le (by omega), List.append_nil]
    exact ⟨v', rfl, hO.row h3 h4 h5⟩
  · obtain ⟨g, cap, cur, rfl, hg, hnc, hcm, hcur, hx⟩ := Z18 hr (by omega)
    have hne : vb ≠ g := fun e => by
      have := (List.pairwise_cons.1 hO.diff).1 (tBlk vb 103 cs.toArray) (by simp) g (by simp [tRow, Value.ownBlock])
      simp [tBlk, e] at this
    have h1' : ∀ u ∈ cur.toList.take (n * 2), u.oneCell' = true := by rw [hx]; exact h1
    have hcl : cur.toList.length = cap * 2 := by rw [Array.length_toList, hcur]
    by_cases hroom : n + 1 ≤ cap
    · refine (Z75 g n cap i vb cur cs w hg hv hne (by omega) hroom hcm hcur hcs h1' h2).mono ?_
      rintro e w' ⟨rfl, h3, h4⟩
      refine ⟨_, rfl, hO.row (Z3x h3 hroom hcm ?_ ?_) h4.grown (.inl rfl)⟩
      · have := length_splice cur.toList ((i + 1) * 2) ((cur.toList.take (n * 2)).drop (i * 2)) (by rw [List.length_drop, List.length_take]; omega)
        rw [List.size_toArray, length_splice _ _ _ (by omega), this, hcl]
      · simpa using take_room hcl hx (by omega) hroom hcs
    · refine (Z76 g n cap i vb cur cs w hg hv (by omega) hnc (by omega) hn hcur hcs h1' h2).mono ?_
      rintro e w' ⟨cap', L0, rfl, h3, h4, h5, h6, h7, h8⟩
      obtain ⟨ht, hl⟩ := take_grow hcl hnc hx (by omega) h3 hcs h5 h6
      refine ⟨_, rfl, hO.row (Z3x h7 h3 h4 (by simpa using hl) (by simpa using ht)) (Z24 h8 _) (.inr ⟨_, rfl, Nat.le_refl _⟩)⟩
end Go.Proofs.Ytbfgacmfjfbooaa

/- trees: put (printed by XTrP.gen.py). -/
namespace Go.Proofs.Ytbfgacmfjfbooaa
attribute [local simp] BigFrame.eval_const BigFrame.eval_global BigFrame.eval_func
set_option linter.unusedVariables false
set_option linter.unusedSimpArgs false
open Go.RowKit Go.Maps

theorem tread {H : Nat} {A0 : World} {R : List Thing} {sb cap : Nat} {room : Int} {B : Option Addr} {vs : List Value} {N : List Nd} {q l : Nat} {xs : List Pr} {q0 : Int} (w : World) (O : OwnT H A0 (shT sb room B cap vs N R) w) (hN : N.length ≤ 1000000) (hq : ndAt N q = some (l, xs)) (hg : goodB (l : Int) xs = true) (hne : xs ≠ []) (h15 : xs.length ≤ 15) (hx : ∀ x ∈ xs, x.1 < 18446744073709551616) (h0 : q0 < 0 ∨ q0 = l) :
 Calls Try.prog 88 #[.iface 47 (.pointer (some ⟨sb, 0, none⟩)), .int .i64 q, .int .i64 q0] w fun e w' => ∃ v, e = .returned (.tuple #[.agg #[.int .i64 l, v], .int .i64 0]) ∧ OwnT H A0 (tPs v xs :: shT sb room B cap vs N R) w' := by
 rcases h0 with h | rfl
 · exact tread_any w O hN hq hg hne h15 hx h
 · exact tread_at w O hN hq hg hne h15 hx
theorem Kids.kid {T : Nat → List (List Pr) → List Nat → Prop} : ∀ {xs : List Pr} {L : List (List Pr)} {g : List Nat}, Kids T xs L g → ∀ x ∈ xs, ∃ L1 g1, T x.2 L1 g1
 | [], _, _, _, _, h => by cases h
 | _ :: _, _, _, ⟨L1, g1, L2, g2, h1, h2, h3, _, _⟩, y, hy => by
  rcases List.mem_cons.1 hy with rfl | hy
  · exact ⟨_, _, h1⟩
  · exact h3.kid y hy
/-- A sound subtree's node can be. -/
theorem Z4w {N : List Nd} {l p : Nat} {L : List (List Pr)} {g : List Nat} (hT : Tr N l p L g) (hu : Up L.flatten) (h7 : l ≤ 7) (hN : N.length ≤ 511) (hwf : ∀ y ∈ L.flatten, y.1 < 18446744073709551616 ∧ y.2 < 18446744073709551616) :
 ∃ xs, ndAt N p = some (l, xs) ∧ xs ≠ [] ∧ xs.length ≤ 15 ∧ Up xs ∧ goodB (l : Int) xs = true ∧ (∀ x ∈ xs, x.1 < 18446744073709551616 ∧ x.2 < 18446744073709551616) := by
 obtain ⟨xs, h, h1, h2, h3, h4, _⟩ := Z88.1 hT
 cases l with
 | zero =>
  obtain ⟨rfl, _⟩ := Z0f.1 h4
  rw [if_neg h2] at hu hwf
  have e : [xs].flatten = xs := by simp
  rw [e] at hu hwf
  exact ⟨xs, h1, h2, h3, hu, Z81 (by omega) h3 hu (fun h => by cases h), hwf⟩
 | succ l =>
  have hk := Z0i.1 h4
  obtain ⟨hux, hkx⟩ := hk.up hu
  have hv : ∀ x ∈ xs, 1 ≤ x.2 ∧ x.2 < 512 := fun x hx => by
   obtain ⟨L1, g1, hT1⟩ := hk.kid x hx
   obtain ⟨r, e⟩ := Tr.one hT1
   have := Tr.pages hT1 x.2 (by rw [e]; simp)
   omega
  refine ⟨xs, h1, h2, h3, hux, Z81 (by omega) h3 hux (fun _ => ⟨h2, hv⟩), fun x hx => ?_⟩
  obtain ⟨v, hm⟩ := hkx x hx
  have := hv x hx
  exact ⟨(hwf _ hm).1, by omega⟩
theorem flatP_set {xs : List Pr} {n : Nat} {x : Pr} (hn : n < xs.length) : ((flatP xs).set (n * 2) (.int .u64 x.1)).set (n * 2 + 1) (.int .u64 x.2) = flatP (xs.set n x) := by
 induction xs generalizing n with
 | nil => simp at hn
 | cons y xs ih =>
  cases n with
  | zero => rfl
  | succ n =>
   have := ih (n := n) (by simpa using hn)
   rw [show (n + 1) * 2 = n * 2 + 1 + 1 by omega, show n * 2 + 1 + 1 + 1 = n * 2 + 1 + 2 by omega]
   show Value.int .u64 y.1 :: Value.int .u64 y.2 :: ((flatP xs).set (n * 2) _).set (n * 2 + 1) _ = Value.int .u64 y.1 :: Value.int .u64 y.2 :: flatP (xs.set n x)
   rw [this]
/-- A pair of a row is turned. -/
theorem OwnT.setPair {H : Nat} {A w : World} {R : List Thing} {g cap n : Nat} {xs : List Pr} {x : Pr} (O : OwnT H A (tPs (.slice (some ⟨g, 0, none⟩) xs.length cap) xs :: R) w) (hn : n < xs.length) :
 (∃ u v, w.cell? ⟨g, n * 2, none⟩ = some u ∧ w.frozen? ⟨g, n * 2, none⟩ = false ∧ w.cell? ⟨g, n * 2 + 1, none⟩ = some v ∧ w.frozen? ⟨g, n * 2 + 1, none⟩ = false) ∧
 OwnT H A (tPs (.slice (some ⟨g, 0, none⟩) (xs.set n x).length cap) (xs.set n x) :: R) ((w.setCell ⟨g, n * 2, none⟩ (.int .u64 x.1)).setCell ⟨g, n * 2 + 1, none⟩ (.int .u64 x.2)) := by
 obtain ⟨g', cap', cur, e, h1, h2, h3, h4, OB⟩ := O.rowBlk (by omega)
 injection e with e _ e3
 injection e with e
 injection e with e
 subst e e3
 have hfl : (flatP xs).length = xs.length * 2 := Z0t xs
 have hcl : xs.length * 2 ≤ cur.length := by rw [h3]; omega
 have hb := OB.b0
 refine ⟨⟨_, _, by rw [hb.cell]; exact Array.getElem?_eq_getElem (by simp; omega), hb.frozen _, by rw [hb.cell]; exact Array.getElem?_eq_getElem (by simp; omega), hb.frozen _⟩, ?_⟩
 have O2 := (OB.set (n * 2) (.int .u64 x.1)).set (n * 2 + 1) (.int .u64 x.2)
 have e1 : (cur.toArray.setIfInBounds (n * 2) (.int .u64 x.1)).setIfInBounds (n * 2 + 1) (.int .u64 x.2) = ((cur.set (n * 2) (.int .u64 x.1)).set (n * 2 + 1) (.int .u64 x.2)).toArray := by simp
 rw [e1] at O2
 have hl : (xs.set n x).length = xs.length := by simp
 show OwnT H A (tRow 103 2 (.slice _ (xs.set n x).length cap) (xs.set n x).length (flatP (xs.set n x)) :: R) _
 rw [hl]
 refine O2.blkRow h1 h2 (by simp [h3]) ?_
 rw [List.take_set, List.take_set, h4, flatP_set hn]

/-- What 'put' brings. -/
def PutE (N N' : List Nd) (room : Int) (l p : Nat) (x : Pr) (L : List (List Pr)) (g : List Nat) (es : List Pr) (er lv : Int) : Prop :=
 (er = 6 ∧ (∃ M, N' = N ++ M ∧ M.length ≤ 2 * (l + 1)) ∧ ¬ (N.length + 2 * (l + 1) ≤ 511 ∧ ((N.length + 2 * (l + 1) : Nat) : Int) ≤ room)) ∨ (er = 0 ∧ lv = l ∧ PutR N N' l p x L g es)
theorem Z60 {N M : List Nd} {room : Int} {l p : Nat} {x : Pr} {L : List (List Pr)} {g : List Nat} {es ys : List Pr} {er : Int} (hM : M.length ≤ (parts ys).length)
 (hA : (er = 6 ∧ es = [] ∧ ¬ (N.length + (parts ys).length ≤ 511 ∧ ((N.length + (parts ys).length : Nat) : Int) ≤ room)) ∨ (er = 0 ∧ M = newN l (parts ys) ∧ es = outs (parts ys) N.length)) (hp : PutR N (N ++ newN l (parts ys)) l p x L g (outs (parts ys) N.length)) : PutE N (N ++ M) room l p x L g es er l := by
 have h2 := Z2d ys
 rcases hA with ⟨rfl, rfl, h⟩ | ⟨rfl, rfl, rfl⟩
 · exact .inl ⟨rfl, ⟨M, rfl, by omega⟩, fun h3 => h (by omega)⟩
 · exact .inr ⟨rfl, rfl, hp⟩

set_option maxRecDepth 100000 in
set_option maxHeartbeats 800000 in
theorem tput_leaf {H : Nat} {A0 : World} {R : List Thing} {sb cap : Nat} {room : Int} {B : Option Addr} {vs : List Value} {N : List Nd} {l p : Nat} {x : Pr} {L : List (List Pr)} {g : List Nat} {q0 : Int} (w : World) (O : OwnT H A0 (shT sb room B cap vs N R) w) (hT : Tr N l p L g) (hu : Up L.flatten) (hgn : g.Nodup) (h7 : l ≤ 7) (hN : N.length ≤ 511) (hwf : ∀ y ∈ L.flatten, y.1 < 18446744073709551616 ∧ y.2 < 18446744073709551616) (hx : x.1 < 18446744073709551616 ∧ x.2 < 18446744073709551616) (h0 : q0 < 0 ∨ q0 = l) (hl0 : l = 0) : Calls Try.prog 77 #[.iface 47 (.pointer (some ⟨sb, 0, none⟩)), .int .i64 p, .int .i64 q0, .agg #[.int .u64 x.1, .int .u64 x.2]] w fun e w' => ∃ N' o es er lv B' cap' vs', e = .returned (.tuple #[o, .int .i64 lv, .int .i64 er]) ∧ OwnT H A0 (tPs o es :: shT sb room B' cap' vs' N' R) w' ∧ PutE N N' room l p x L g es er lv := by
 obtain ⟨xs, hnd, hne, h15, hux, hg, hxw⟩ := Z4w hT hu h7 hN hwf
 obtain ⟨n, hpl⟩ := Z7p xs x.1 (Z6p hux)
 have hn15 := hpl.le
 refine Z0a Try.func77 rfl 100 rfl (by rfl) ?_
 intro a1 k hargs; have e0 : a1.eval (.tmp 0) = .iface 47 (.pointer (some ⟨sb, 0, none⟩)) := hargs 0 _ rfl
 have e1 : a1.eval (.tmp 1) = .int .i64 ↑p := hargs 1 _ rfl
 have e2 : a1.eval (.tmp 2) = .int .i64 q0 := hargs 2 _ rfl
 have e3 : a1.eval (.tmp 3) = .agg #[.int .u64 ↑x.1, .int .u64 ↑x.2] := hargs 3 _ rfl
 clear hargs; refine wp_seq ?_; refine wp_region_lit ?_
 have hE := Env.refl a1 [7, 8, 9, 10]; refine Z0k O (cs := #[.int .u64 ↑x.1, .int .u64 ↑x.2]) (t := 103) 7 hE k rfl (by rfl) (by rfl) rfl (by simp [go_sem, ↓IntWalk.iteOmega, ev (hE.g e3)]) ?_
 clear O; intro xb a2 w3 O hE e7 kp; refine sd 8 hE k (Z01 rfl rfl) ?_; intro a4 hE e8 kp; replace e7 := kt kp e7; refine sd 9 hE k (Z01 rfl rfl) ?_; intro a5 hE e9 kp; replace e7 := kt kp e7; refine sd 10 hE k (Z01 rfl rfl) ?_; intro a6 hE e10 kp; replace e7 := kt kp e7; refine wpList_nil ?_; replace e0 := hE.g e0; replace e1 := hE.g e1; replace e2 := hE.g e2; replace k := k.env hE; clear hE e3 e10; refine Z00 ?_; replace O : OwnT _ _ ((tBlk sb 49 #[.slice B N.length cap, .int .i64 room]) :: (tRow 46 2 (.slice B N.length cap) N.length (leafV vs N)) :: (tPool vs N) :: (tBlk xb 103 #[.int .u64 ↑x.1, .int .u64 ↑x.2]) :: R) w3 := OwnT.pickR (L := [_, _, _, _]) (R := R) O [1, 2, 3, 0] (by decide)
 refine wp_seq ?_; refine wp_region_lit ?_
 have hE := Env.refl a6 [20, 21, 22, 23, 19, 24, 25, 11, 12]; refine zm 20 hE k e0 ?_; intro a7 hE e20 kp; refine zm 21 hE k e1 ?_; intro a8 hE e21 kp; replace e20 := kt kp e20; refine zm 22 hE k e2 ?_; intro a9 hE e22 kp; replace e20 := kt kp e20; replace e21 := kt kp e21; apply Z09 23 hE k rfl (by rfl) (by rfl) rfl
 case h =>
  simp [go_sem, ↓IntWalk.iteOmega, ev e20, ev e21, ev e22]
  with_reducible exact ⟨rfl, rfl⟩
 case hc => exact tread (R := _ :: R) _ O (by omega) hnd hg hne h15 (fun y hy => (hxw y hy).1) h0
 clear O; rintro e w11 ⟨v, rfl, O⟩
 obtain ⟨Bv, cv, rfl, hv1, hv2, -, hv3⟩ := Z0x (OwnT.t0 O)
 refine ⟨_, rfl, ?_⟩
 intro a10 hE e23 kp; refine sd 19 hE k (Z02 rfl e23) ?_; intro a12 hE e19 kp; apply Z03 24 hE k rfl rfl rfl rfl; case h =>
  simp [go_sem, ↓IntWalk.iteOmega, ev e19]
  with_reducible rfl
 intro a13 hE e24 kp; replace e19 := kt kp e19; apply Z03 25 hE k rfl rfl rfl rfl; case h =>
  simp [go_sem, ↓IntWalk.iteOmega, ev e19]
  with_reducible rfl
 intro a14 hE e25 kp; replace e24 := kt kp e24; refine Z0k O (cs := #[.int .i64 0, .slice none 0 0]) (t := 46) 11 hE k rfl (by rfl) (by rfl) rfl (by simp [go_sem, ↓IntWalk.iteOmega]) ?_
 clear O; intro lb a15 w16 O hE e11 kp; replace e24 := kt kp e24; replace e25 := kt kp e25; refine Z1f O 0 0 hE e11 e24 ?_
 clear O; intro w17 O; replace O : OwnT _ _ ((tBlk lb 46 #[.int .i64 ↑l, .slice Bv xs.length cv]) :: _) w17 := O
 refine sd 12 hE k (Z01 rfl e25) ?_; intro a18 hE e12 kp; replace e11 := kt kp e11; refine wpList_nil ?_; replace e0 := hE.g e0; replace e7 := hE.g e7; replace k := k.env hE; clear hE e1 e2; refine Z00 (wp_seq ?_); refine wp_seq ?_; refine wp_region_lit ?_
 have hE := Env.refl a18 [26, 27]; refine zm 26 hE k e12 ?_; intro a19 hE e26 kp; refine sd 27 hE k (Z05 (Z0q rfl e26 rfl) (decide_eq_false (by omega))) ?_
 intro a20 hE e27 kp; refine wpList_nil ?_; replace e0 := hE.g e0; replace e7 := hE.g e7; replace e11 := hE.g e11; replace e12 := hE.g e12; replace k := k.env hE; clear hE; refine Z00 ?_; refine Z06 e27 rfl ?_
 refine wp_skip ?_; refine Z00 ?_; replace O : OwnT _ _ ((tPs (.slice Bv xs.length cv) xs) :: (tBlk sb 49 #[.slice B N.length cap, .int .i64 room]) :: (tRow 46 2 (.slice B N.length cap) N.length (leafV vs N)) :: (tPool vs N) :: (tBlk lb 46 #[.int .i64 ↑l, .slice Bv xs.length cv]) :: (tBlk xb 103 #[.int .u64 ↑x.1, .int .u64 ↑x.2]) :: R) w17 := OwnT.pickR (L := [_, _, _, _, _, _]) (R := R) O [1, 2, 3, 4, 0, 5] (by decide)
 obtain ⟨gv, ev⟩ : ∃ gv, Bv = some ⟨gv, 0, none⟩ := by
  obtain ⟨g2, c2, _, e2, _⟩ := Z18 (OwnT.t0 O : World.ownsRow _ 0 103 2 _ xs.length _) (List.length_pos_iff.2 hne)
  injection e2 with e2; exact ⟨g2, e2⟩
 subst ev
 obtain ⟨_, _, e2, -, -, hrow, -⟩ := Z0x (OwnT.t0 O)
 injection e2 with e2 _ e3
 subst e2 e3
 obtain ⟨bb, hbb⟩ : ∃ b, decide (n < xs.length ∧ keyAt xs n = x.1) = b := ⟨_, rfl⟩
 refine wp_seq ?_; refine wp_region_lit ?_
 have hE := Env.refl a20 [30, 31, 32, 33, 29, 34, 35, 13, 14]; refine sd 30 hE k (Z1s O 4 rfl rfl (hE.g e11) [.int .i64 ↑l, .slice (some ⟨gv, 0, none⟩) xs.length cv] rfl Try.underlying46 rfl (by kernel_rfl)) ?_; intro a21 hE e30 kp; apply Z03 31 hE k rfl rfl rfl rfl; case h =>
  simp [go_sem, ↓IntWalk.iteOmega, ev (hE.g e7)]
  with_reducible rfl
 intro a22 hE e31 kp; replace e30 := kt kp e30; refine sd 32 hE k (Z08 O 5 rfl rfl e31 rfl Try.underlying71 rfl) ?_; intro a23 hE e32 kp; replace e30 := kt kp e30; apply Z09 33 hE k rfl (by rfl) (by rfl) rfl
 case h =>
  simp [go_sem, ↓IntWalk.iteOmega, ev e30, ev e32]
  with_reducible exact ⟨rfl, rfl⟩
 case hc => exact Z5i (l : Int) (some ⟨gv, 0, none⟩) xs.length cv xs _ rfl (by omega) hrow x.1 n hpl
 rintro e w25 ⟨rfl, RE⟩
 replace hrow := hrow.below RE
 replace O := OwnT.ext O RE; refine ⟨_, congrArg (fun b => Ending.returned (.tuple #[.int .i64 (n : Int), .bool b])) hbb, ?_⟩
 intro a24 hE e33 kp; refine sd 29 hE k (Z02 rfl e33) ?_; intro a26 hE e29 kp; apply Z03 34 hE k rfl rfl rfl rfl; case h =>
  simp [go_sem, ↓IntWalk.iteOmega, ev e29]
  with_reducible rfl
 intro a27 hE e34 kp; replace e29 := kt kp e29; apply Z03 35 hE k rfl rfl rfl rfl; case h =>
  simp [go_sem, ↓IntWalk.iteOmega, ev e29]
  with_reducible rfl
 intro a28 hE e35 kp; replace e34 := kt kp e34; refine sd 13 hE k (Z01 rfl e34) ?_; intro a29 hE e13 kp; replace e35 := kt kp e35; refine sd 14 hE k (Z01 rfl e35) ?_; intro a30 hE e14 kp; replace e13 := kt kp e13; refine wpList_nil ?_; replace e0 := hE.g e0; replace e7 := hE.g e7; replace e11 := hE.g e11; replace k := k.env hE; clear hE e12 e27; refine Z00 (wp_seq ?_); refine wp_block ?_; have hput : ∀ ys, insP x xs = ys → PutR N (N ++ newN l (parts ys)) l p x L g (outs (parts ys) N.length) ∧ ys.length ≤ 16 := by
  intro ys e; subst e hl0; obtain ⟨h1, h2, _⟩ := put_leaf (x := x) hT hnd; exact ⟨h1, h2⟩
 refine wp_seq ?_; refine wp_region_lit ?_
 have hE := Env.refl a30 [44, 45, 46, 43]; apply Z03 44 hE k rfl rfl rfl rfl; case h =>
  simp [go_sem, ↓IntWalk.iteOmega, ev (hE.g e11)]
  with_reducible rfl
 intro a31 hE e44 kp; refine sd 45 hE k (Z08 O 4 rfl rfl e44 rfl Try.underlying3 rfl) ?_; intro a32 hE e45 kp; refine sd 46 hE k (Z05 (Z2b rfl e45 rfl) (decide_eq_false (by omega))) ?_
 intro a33 hE e46 kp; refine sd 43 hE k (Z01 rfl e46) ?_; intro a34 hE e43 kp; refine wpList_nil ?_; replace e0 := hE.g e0; replace e7 := hE.g e7; replace e11 := hE.g e11; replace e13 := hE.g e13; replace e14 := hE.g e14; replace k := k.env hE; clear hE; refine Z00 ?_; refine Z06 e43 rfl ?_
 cases bb with
 | true =>
  have hy := of_decide_eq_true hbb
  have hnI : (n : Int) < (xs.length : Int) := by omega
  refine wp_seq ?_; refine wp_region_lit ?_
  have hE := Env.refl a34 [81, 80]; refine zm 81 hE k e14 ?_; intro a35 hE e81 kp; refine sd 80 hE k (Z01 rfl e81) ?_; intro a36 hE e80 kp; refine wpList_nil ?_; replace e0 := hE.g e0; replace e7 := hE.g e7; replace e11 := hE.g e11; replace e13 := hE.g e13; replace k := k.env hE; clear hE e14 e43; refine Z00 ?_; refine Z0h e80 rfl ?_
  obtain ⟨ys, hys⟩ : ∃ ys, xs.set n x = ys := ⟨_, rfl⟩
  have hyl : ys.length = xs.length := by rw [← hys]; simp
  obtain ⟨hput, hy16⟩ := hput ys (by rw [← hys]; exact insP_yes hux hpl hy)
  obtain ⟨u0, v0, q0_, q1_, q2_, q3_⟩ := (OwnT.setPair (x := x) O hy.1).1
  refine wp_region_lit ?_
  have hE := Env.refl a36 [82, 83, 84, 85, 86]; apply Z03 82 hE k rfl rfl rfl rfl; case h =>
   simp [go_sem, ↓IntWalk.iteOmega, ev (hE.g e11)]
   with_reducible rfl
  intro a37 hE e82 kp; refine sd 83 hE k (Z08 O 4 rfl rfl e82 rfl Try.underlying44 rfl) ?_; intro a38 hE e83 kp; refine zm 84 hE k e13 ?_; intro a39 hE e84 kp; replace e83 := kt kp e83; refine sd 85 hE k (Z1s O 5 rfl rfl (hE.g e7) [.int .u64 ↑x.1, .int .u64 ↑x.2] rfl Try.underlying103 rfl (by kernel_rfl)) ?_; intro a40 hE e85 kp; replace e83 := kt kp e83; replace e84 := kt kp e84; apply Z03 86 hE k rfl rfl rfl rfl; case h =>
   simp [go_sem, ↓IntWalk.iteOmega, ev e83, ev e84]
   with_reducible rfl
  intro a41 hE e86 kp; replace e85 := kt kp e85; refine Z51 (w' := ((w25.setCell ⟨gv, n * 2, none⟩ (.int .u64 x.1)).setCell ⟨gv, n * 2 + 1, none⟩ (.int .u64 x.2))) hE rfl rfl ?_ ?_
  · simp [go_sem, ↓IntWalk.iteOmega, ev e86, ev e85, q0_, q1_, q2_, q3_]
  replace O := (OwnT.setPair (x := x) O hy.1).2
  rw [hys, ← hyl] at O
  clear q0_ q1_ q2_ q3_; generalize ((w25.setCell ⟨gv, n * 2, none⟩ (.int .u64 x.1)).setCell ⟨gv, n * 2 + 1, none⟩ (.int .u64 x.2)) = w42 at O ⊢
  refine wpList_nil ?_; replace e0 := hE.g e0; replace e11 := hE.g e11; replace k := k.env hE; clear hE e7 e13 e80 e85 e86; refine Z0u ?_; refine Z00 (wp_seq ?_); refine wp_region_lit ?_
  have hE := Env.refl a41 [88, 89, 90, 91, 92, 93, 87, 94, 95, 18, 12]; refine zm 88 hE k e0 ?_; intro a43 hE e88 kp; apply Z03 89 hE k rfl rfl rfl rfl; case h =>
   simp [go_sem, ↓IntWalk.iteOmega, ev (hE.g e11)]
   with_reducible rfl
  intro a44 hE e89 kp; replace e88 := kt kp e88; refine sd 90 hE k (Z08 O 4 rfl rfl e89 rfl Try.underlying3 rfl) ?_; intro a45 hE e90 kp; replace e88 := kt kp e88; apply Z03 91 hE k rfl rfl rfl rfl; case h =>
   simp [go_sem, ↓IntWalk.iteOmega, ev (hE.g e11)]
   with_reducible rfl
  intro a46 hE e91 kp; replace e88 := kt kp e88; replace e90 := kt kp e90; refine sd 92 hE k (Z08 O 4 rfl rfl e91 rfl Try.underlying44 rfl) ?_; intro a47 hE e92 kp; replace e88 := kt kp e88; replace e90 := kt kp e90; apply Z09 93 hE k rfl (by rfl) (by rfl) rfl
  case h =>
   simp [go_sem, ↓IntWalk.iteOmega, ev e88, ev e90, ev e92]
   with_reducible exact ⟨rfl, rfl⟩
  case hc => exact tadded (R := _ :: _ :: R) _ O (by omega) hy16
  clear O; rintro e w49 ⟨M, es, er, o, B2, cap2, vs2, rfl, hA, O⟩
  refine ⟨_, rfl, ?_⟩
  intro a48 hE e93 kp; refine sd 87 hE k (Z02 rfl e93) ?_; intro a50 hE e87 kp; apply Z03 94 hE k rfl rfl rfl rfl; case h =>
   simp [go_sem, ↓IntWalk.iteOmega, ev e87]
   with_reducible rfl
  intro a51 hE e94 kp; replace e87 := kt kp e87; apply Z03 95 hE k rfl rfl rfl rfl; case h =>
   simp [go_sem, ↓IntWalk.iteOmega, ev e87]
   with_reducible rfl
  intro a52 hE e95 kp; replace e94 := kt kp e94; refine sd 18 hE k (Z01 rfl e94) ?_; intro a53 hE e18 kp; replace e95 := kt kp e95; refine sd 12 hE k (Z01 rfl e95) ?_; intro a54 hE e12 kp; replace e18 := kt kp e18; refine wpList_nil ?_; replace e11 := hE.g e11; replace k := k.env hE; clear hE e0; refine Z00 (wp_seq ?_); refine Z0b (R := Ext) (w0 := w49) [[], [], [1], [], [0], [0, 1, 2, 4], rg 6] [96, 97, 98, 99, 8, 9, 10] Ext.refl (fun _ _ _ => Ext.trans) (Ext.drew _) (by kernel_rfl) ?_
  refine bd 96 k rfl rfl rfl (fun ax wx hE hR hF => Z02 rfl (hE.g e18)) ?_
  apply bd 97 k rfl rfl rfl; case h =>
   intro ax wx hE hR hF; simp [go_sem, ↓IntWalk.iteOmega, ev (hE.g e11)]
   with_reducible rfl
  refine bd 98 k rfl rfl rfl (fun ax wx hE hR hF => have e97 := zhF hF 1 97 ml0; Z08 (OwnT.ext O hR) 5 rfl rfl e97 rfl Try.underlying3 rfl) ?_
  refine bd 99 k rfl rfl rfl (fun ax wx hE hR hF => Z02 rfl (hE.g e12)) ?_
  refine bd 8 k rfl rfl rfl (fun ax wx hE hR hF => have e96 := zhF hF 0 96 ml3; Z01 rfl e96) ?_
  refine bd 9 k rfl rfl rfl (fun ax wx hE hR hF => have e98 := zhF hF 2 98 ml2; Z01 rfl e98) ?_
  refine bd 10 k rfl rfl rfl (fun ax wx hE hR hF => have e99 := zhF hF 3 99 ml2; Z01 rfl e99) ?_
  apply Build.stop
  refine ⟨by kernel_rfl, .inl ⟨rfl, ?_⟩⟩
  intro a55 w56 hE R hF; have e8 : a55.eval (.tmp 8) = _ := hF 4 (det 8 _) ml2
  have e9 : a55.eval (.tmp 9) = _ := hF 5 (det 9 _) ml1
  have e10 : a55.eval (.tmp 10) = _ := hF 6 (det 10 _) ml0
  clear hF; replace O := OwnT.ext O R; clear R; replace k := k.env hE; clear hE e11 e12 e18; refine Z00 ?_; refine wp_ret ?_
  have O2 := OwnT.pickR (L := [_, _, _, _, _, _, _]) (R := R) O [0, 2, 3, 4] (by decide)
  obtain ⟨hM2, hA⟩ := hA
  refine Z7n rfl k e8 e9 e10 ?_
  exact ⟨_, o, es, er, _, B2, cap2, vs2, rfl, O2, Z60 hM2 hA hput⟩
 | false =>
  have hy := of_decide_eq_false hbb
  obtain ⟨ys, hys⟩ : ∃ ys, xs.take n ++ x :: xs.drop n = ys := ⟨_, rfl⟩
  have hyl : ys.length = xs.length + 1 := by rw [← hys]; simp; omega
  have hyf : (flatP xs).take (n * 2) ++ ([Value.int .u64 (x.1 : Int), Value.int .u64 (x.2 : Int)] ++ (flatP xs).drop (n * 2)) = flatP ys := by rw [← hys, Z2f, Z4m, ← Z4n]; rfl
  obtain ⟨hput, hy16⟩ := hput ys (by rw [← hys]; exact insP_no hux hpl hy)
  refine wp_seq ?_; refine wp_region_lit ?_
  have hE := Env.refl a34 [81, 80]; refine zm 81 hE k e14 ?_; intro a57 hE e81 kp; refine sd 80 hE k (Z01 rfl e81) ?_; intro a58 hE e80 kp; refine wpList_nil ?_; replace e0 := hE.g e0; replace e7 := hE.g e7; replace e11 := hE.g e11; replace e13 := hE.g e13; replace k := k.env hE; clear hE e14 e43; refine Z00 ?_; refine Z06 e80 rfl ?_
  refine wp_region_lit ?_
  have hE := Env.refl a58 [36, 37, 38, 39, 40, 41, 42]; apply Z03 36 hE k rfl rfl rfl rfl; case h =>
   simp [go_sem, ↓IntWalk.iteOmega, ev (hE.g e11)]
   with_reducible rfl
  intro a59 hE e36 kp; refine sd 37 hE k (Z08 O 4 rfl rfl e36 rfl Try.underlying44 rfl) ?_; intro a60 hE e37 kp; refine zm 38 hE k e13 ?_; intro a61 hE e38 kp; replace e37 := kt kp e37; refine sd 39 hE k (Z1s O 5 rfl rfl (hE.g e7) [.int .u64 ↑x.1, .int .u64 ↑x.2] rfl Try.underlying103 rfl (by kernel_rfl)) ?_; intro a62 hE e39 kp; replace e37 := kt kp e37; replace e38 := kt kp e38; refine Z1n (m := 1) (c := 1) O (cs := #[.int .u64 ↑x.1, .int .u64 ↑x.2]) (t := 103) 40 hE k rfl (by rfl) (by rfl) rfl (by simp [go_sem, ↓IntWalk.iteOmega, ev e39]) ?_
  clear O; intro gn a63 w64 O hE e40 kp; replace e37 := kt kp e37; replace e38 := kt kp e38; apply Z09 41 hE k rfl (by rfl) (by rfl) rfl
  case h =>
   simp [go_sem, ↓IntWalk.iteOmega, ev e37, ev e38, ev e40]
   with_reducible exact ⟨rfl, rfl⟩
  case hc => exact insert_any _ xs.length n gn (flatP xs) [.int .u64 x.1, .int .u64 x.2] _ (OwnT.pickR (L := [_, _, _, _, _, _, _]) (R := R) O [1, 0, 2, 3, 4, 5, 6] (by decide)) hn15 (by omega) rfl (Z1m xs) (by intro u hu; simp at hu; rcases hu with rfl | rfl <;> rfl)
  clear O; rintro e w66 ⟨v', rfl, O⟩
  obtain ⟨g3, c3, rfl⟩ := OwnT.slice0 O (by omega)
  rw [hyf, ← hyl] at O
  refine ⟨.slice (some ⟨g3, 0, none⟩) ys.length c3, by rw [hyl], ?_⟩
  intro a65 hE e41 kp; apply Z03 42 hE k rfl rfl rfl rfl; case h =>
   simp [go_sem, ↓IntWalk.iteOmega, ev (hE.g e11)]
   with_reducible rfl
  intro a67 hE e42 kp; replace e41 := kt kp e41; refine Z1f O 5 1 hE e42 e41 ?_
  clear O; intro w68 O; replace O : OwnT _ _ (_ :: _ :: _ :: _ :: _ :: (tBlk lb 46 #[.int .i64 ↑l, .slice (some ⟨g3, 0, none⟩) ys.length c3]) :: _) w68 := O
  refine wpList_nil ?_; replace e0 := hE.g e0; replace e11 := hE.g e11; replace k := k.env hE; clear hE e7 e13 e80 e41 e42; refine Z0u ?_; refine Z00 ?_; replace O : OwnT _ _ ((tPs (.slice (some ⟨g3, 0, none⟩) ys.length c3) ys) :: (tBlk sb 49 #[.slice B N.length cap, .int .i64 room]) :: (tRow 46 2 (.slice B N.length cap) N.length (leafV vs N)) :: (tPool vs N) :: (tBlk lb 46 #[.int .i64 ↑l, .slice (some ⟨g3, 0, none⟩) ys.length c3]) :: (tBlk xb 103 #[.int .u64 ↑x.1, .int .u64 ↑x.2]) :: R) w68 := OwnT.pickR (L := [_, _, _, _, _, _, _]) (R := R) O [0, 2, 3, 4, 5, 6] (by decide)
  refine wp_seq ?_; refine wp_region_lit ?_
  have hE := Env.refl a67 [88, 89, 90, 91, 92, 93, 87, 94, 95, 18, 12]; refine zm 88 hE k e0 ?_; intro a69 hE e88 kp; apply Z03 89 hE k rfl rfl rfl rfl; case h =>
   simp [go_sem, ↓IntWalk.iteOmega, ev (hE.g e11)]
   with_reducible rfl
  intro a70 hE e89 kp; replace e88 := kt kp e88; refine sd 90 hE k (Z08 O 4 rfl rfl e89 rfl Try.underlying3 rfl) ?_; intro a71 hE e90 kp; replace e88 := kt kp e88; apply Z03 91 hE k rfl rfl rfl rfl; case h =>
   simp [go_sem, ↓IntWalk.iteOmega, ev (hE.g e11)]
   with_reducible rfl
  intro a72 hE e91 kp; replace e88 := kt kp e88; replace e90 := kt kp e90; refine sd 92 hE k (Z08 O 4 rfl rfl e91 rfl Try.underlying44 rfl) ?_; intro a73 hE e92 kp; replace e88 := kt kp e88; replace e90 := kt kp e90; apply Z09 93 hE k rfl (by rfl) (by rfl) rfl
  case h =>
   simp [go_sem, ↓IntWalk.iteOmega, ev e88, ev e90, ev e92]
   with_reducible exact ⟨rfl, rfl⟩
  case hc => exact tadded (R := _ :: _ :: R) _ O (by omega) hy16
  clear O; rintro e w75 ⟨M, es, er, o, B2, cap2, vs2, rfl, hA, O⟩
  refine ⟨_, rfl, ?_⟩
  intro a74 hE e93 kp; refine sd 87 hE k (Z02 rfl e93) ?_; intro a76 hE e87 kp; apply Z03 94 hE k rfl rfl rfl rfl; case h =>
   simp [go_sem, ↓IntWalk.iteOmega, ev e87]
   with_reducible rfl
  intro a77 hE e94 kp; replace e87 := kt kp e87; apply Z03 95 hE k rfl rfl rfl rfl; case h =>
   simp [go_sem, ↓IntWalk.iteOmega, ev e87]
   with_reducible rfl
  intro a78 hE e95 kp; replace e94 := kt kp e94; refine sd 18 hE k (Z01 rfl e94) ?_; intro a79 hE e18 kp; replace e95 := kt kp e95; refine sd 12 hE k (Z01 rfl e95) ?_; intro a80 hE e12 kp; replace e18 := kt kp e18; refine wpList_nil ?_; replace e11 := hE.g e11; replace k := k.env hE; clear hE e0; refine Z00 (wp_seq ?_); refine Z0b (R := Ext) (w0 := w75) [[], [], [1], [], [0], [0, 1, 2, 4], rg 6] [96, 97, 98, 99, 8, 9, 10] Ext.refl (fun _ _ _ => Ext.trans) (Ext.drew _) (by kernel_rfl) ?_
  refine bd 96 k rfl rfl rfl (fun ax wx hE hR hF => Z02 rfl (hE.g e18)) ?_
  apply bd 97 k rfl rfl rfl; case h =>
   intro ax wx hE hR hF; simp [go_sem, ↓IntWalk.iteOmega, ev (hE.g e11)]
   with_reducible rfl
  refine bd 98 k rfl rfl rfl (fun ax wx hE hR hF => have e97 := zhF hF 1 97 ml0; Z08 (OwnT.ext O hR) 5 rfl rfl e97 rfl Try.underlying3 rfl) ?_
  refine bd 99 k rfl rfl rfl (fun ax wx hE hR hF => Z02 rfl (hE.g e12)) ?_
  refine bd 8 k rfl rfl rfl (fun ax wx hE hR hF => have e96 := zhF hF 0 96 ml3; Z01 rfl e96) ?_
  refine bd 9 k rfl rfl rfl (fun ax wx hE hR hF => have e98 := zhF hF 2 98 ml2; Z01 rfl e98) ?_
  refine bd 10 k rfl rfl rfl (fun ax wx hE hR hF => have e99 := zhF hF 3 99 ml2; Z01 rfl e99) ?_
  apply Build.stop
  refine ⟨by kernel_rfl, .inl ⟨rfl, ?_⟩⟩
  intro a81 w82 hE R hF; have e8 : a81.eval (.tmp 8) = _ := hF 4 (det 8 _) ml2
  have e9 : a81.eval (.tmp 9) = _ := hF 5 (det 9 _) ml1
  have e10 : a81.eval (.tmp 10) = _ := hF 6 (det 10 _) ml0
  clear hF; replace O := OwnT.ext O R; clear R; replace k := k.env hE; clear hE e11 e12 e18; refine Z00 ?_; refine wp_ret ?_
  have O2 := OwnT.pickR (L := [_, _, _, _, _, _, _]) (R := R) O [0, 2, 3, 4] (by decide)
  obtain ⟨hM2, hA⟩ := hA
  refine Z7n rfl k e8 e9 e10 ?_
  exact ⟨_, o, es, er, _, B2, cap2, vs2, rfl, O2, Z60 hM2 hA hput⟩
theorem putE_node {N N1 M : List Nd} {room : Int} {l l1 p : Nat} {x : Pr} {L : List (List Pr)} {g : List Nat} {es ys : List Pr} {er : Int} (hl1 : l = l1 + 1) (hN1 : ∃ M1, N1 = N ++ M1 ∧ M1.length ≤ 2 * (l1 + 1)) (hM : M.length ≤ (parts ys).length)
 (hA : (er = 6 ∧ es = [] ∧ ¬ (N1.length + (parts ys).length ≤ 511 ∧ ((N1.length + (parts ys).length : Nat) : Int) ≤ room)) ∨ (er = 0 ∧ M = newN l (parts ys) ∧ es = outs (parts ys) N1.length)) (hp : PutR N (N1 ++ newN (l1 + 1) (parts ys)) (l1 + 1) p x L g (outs (parts ys) N1.length)) : PutE N (N1 ++ M) room l p x L g es er (l : Int) := by
 subst hl1
 have h2 := Z2d ys
 obtain ⟨M1, rfl, hM1⟩ := hN1
 rw [List.length_append] at hA
 rcases hA with ⟨rfl, rfl, h⟩ | ⟨rfl, rfl, rfl⟩
 · exact .inl ⟨rfl, ⟨M1 ++ M, by rw [List.append_assoc], by rw [List.length_append]; omega⟩, fun h3 => h (by omega)⟩
 · rw [← List.length_append] at *
   exact .inr ⟨rfl, rfl, hp⟩
theorem Z2g (m : Nat) (w : World) (h : m ≤ 1000000) : (convert 71 3 (.int .u64 ((m : Nat) : Int))).run Try.prog w = .ok (.int .i64 ((m : Nat) : Int)) w := by
 simp [convert, run_underlying Try.underlying3, run_underlying Try.underlying71, Conv.intToInt, IntWalk.i64_in _ (show -9223372036854775808 ≤ (m : Int) ∧ (m : Int) ≤ 9223372036854775807 by omega)]
theorem kid_max {xs : List Pr} {k n : Nat} : max (if n < xs.length ∧ keyAt xs n = k then (n : Int) else (n : Int) - 1) 0 = (kidN xs k n : Nat) := by
 unfold kidN
 split
 · omega
 · omega

def PutOk (l : Nat) : Prop := ∀ {H : Nat} {A0 : World} {R : List Thing} {sb cap : Nat} {room : Int} {B : Option Addr} {vs : List Value} {N : List Nd} {p : Nat} {x : Pr} {L : List (List Pr)} {g : List Nat} {q0 : Int} (w : World) (_ : OwnT H A0 (shT sb room B cap vs N R) w) (_ : Tr N l p L g) (_ : Up L.flatten) (_ : g.Nodup) (_ : l ≤ 7) (_ : N.length ≤ 511) (_ : ∀ y ∈ L.flatten, y.1 < 18446744073709551616 ∧ y.2 < 18446744073709551616) (_ : x.1 < 18446744073709551616 ∧ x.2 < 18446744073709551616) (_ : q0 < 0 ∨ q0 = l), Calls Try.prog 77 #[.iface 47 (.pointer (some ⟨sb, 0, none⟩)), .int .i64 p, .int .i64 q0, .agg #[.int .u64 x.1, .int .u64 x.2]] w fun e w' => ∃ N' o es er lv B' cap' vs', e = .returned (.tuple #[o, .int .i64 lv, .int .i64 er]) ∧ OwnT H A0 (tPs o es :: shT sb room B' cap' vs' N' R) w' ∧ PutE N N' room l p x L g es er lv
set_option maxRecDepth 100000 in
set_option maxHeartbeats 800000 in
theorem tput_node {H : Nat} {A0 : World} {R : List Thing} {sb cap : Nat} {room : Int} {B : Option Addr} {vs : List Value} {N : List Nd} {l p : Nat} {x : Pr} {L : List (List Pr)} {g : List Nat} {q0 : Int} (w : World) (O : OwnT H A0 (shT sb room B cap vs N R) w) (hT : Tr N l p L g) (hu : Up L.flatten) (hgn : g.Nodup) (h7 : l ≤ 7) (hN : N.length ≤ 511) (hwf : ∀ y ∈ L.flatten, y.1 < 18446744073709551616 ∧ y.2 < 18446744073709551616) (hx : x.1 < 18446744073709551616 ∧ x.2 < 18446744073709551616) (h0 : q0 < 0 ∨ q0 = l) {l1 : Nat} (hl1 : l = l1 + 1) (ih : PutOk l1) : Calls Try.prog 77 #[.iface 47 (.pointer (some ⟨sb, 0, none⟩)), .int .i64 p, .int .i64 q0, .agg #[.int .u64 x.1, .int .u64 x.2]] w fun e w' => ∃ N' o es er lv B' cap' vs', e = .returned (.tuple #[o, .int .i64 lv, .int .i64 er]) ∧ OwnT H A0 (tPs o es :: shT sb room B' cap' vs' N' R) w' ∧ PutE N N' room l p x L g es er lv := by
 obtain ⟨xs, hnd, hne, h15, hux, hg, hxw⟩ := Z4w hT hu h7 hN hwf
 obtain ⟨n, hpl⟩ := Z7p xs x.1 (Z6p hux)
 have hn15 := hpl.le
 refine Z0a Try.func77 rfl 100 rfl (by rfl) ?_
 intro a1 k hargs; have e0 : a1.eval (.tmp 0) = .iface 47 (.pointer (some ⟨sb, 0, none⟩)) := hargs 0 _ rfl
 have e1 : a1.eval (.tmp 1) = .int .i64 ↑p := hargs 1 _ rfl
 have e2 : a1.eval (.tmp 2) = .int .i64 q0 := hargs 2 _ rfl
 have e3 : a1.eval (.tmp 3) = .agg #[.int .u64 ↑x.1, .int .u64 ↑x.2] := hargs 3 _ rfl
 clear hargs; refine wp_seq ?_; refine wp_region_lit ?_
 have hE := Env.refl a1 [7, 8, 9, 10]; refine Z0k O (cs := #[.int .u64 ↑x.1, .int .u64 ↑x.2]) (t := 103) 7 hE k rfl (by rfl) (by rfl) rfl (by simp [go_sem, ↓IntWalk.iteOmega, ev (hE.g e3)]) ?_
 clear O; intro xb a2 w3 O hE e7 kp; refine sd 8 hE k (Z01 rfl rfl) ?_; intro a4 hE e8 kp; replace e7 := kt kp e7; refine sd 9 hE k (Z01 rfl rfl) ?_; intro a5 hE e9 kp; replace e7 := kt kp e7; refine sd 10 hE k (Z01 rfl rfl) ?_; intro a6 hE e10 kp; replace e7 := kt kp e7; refine wpList_nil ?_; replace e0 := hE.g e0; replace e1 := hE.g e1; replace e2 := hE.g e2; replace k := k.env hE; clear hE e3 e10; refine Z00 ?_; replace O : OwnT _ _ ((tBlk sb 49 #[.slice B N.length cap, .int .i64 room]) :: (tRow 46 2 (.slice B N.length cap) N.length (leafV vs N)) :: (tPool vs N) :: (tBlk xb 103 #[.int .u64 ↑x.1, .int .u64 ↑x.2]) :: R) w3 := OwnT.pickR (L := [_, _, _, _]) (R := R) O [1, 2, 3, 0] (by decide)
 refine wp_seq ?_; refine wp_region_lit ?_
 have hE := Env.refl a6 [20, 21, 22, 23, 19, 24, 25, 11, 12]; refine zm 20 hE k e0 ?_; intro a7 hE e20 kp; refine zm 21 hE k e1 ?_; intro a8 hE e21 kp; replace e20 := kt kp e20; refine zm 22 hE k e2 ?_; intro a9 hE e22 kp; replace e20 := kt kp e20; replace e21 := kt kp e21; apply Z09 23 hE k rfl (by rfl) (by rfl) rfl
 case h =>
  simp [go_sem, ↓IntWalk.iteOmega, ev e20, ev e21, ev e22]
  with_reducible exact ⟨rfl, rfl⟩
 case hc => exact tread (R := _ :: R) _ O (by omega) hnd hg hne h15 (fun y hy => (hxw y hy).1) h0
 clear O; rintro e w11 ⟨v, rfl, O⟩
 obtain ⟨Bv, cv, rfl, hv1, hv2, -, hv3⟩ := Z0x (OwnT.t0 O)
 refine ⟨_, rfl, ?_⟩
 intro a10 hE e23 kp; refine sd 19 hE k (Z02 rfl e23) ?_; intro a12 hE e19 kp; apply Z03 24 hE k rfl rfl rfl rfl; case h =>
  simp [go_sem, ↓IntWalk.iteOmega, ev e19]
  with_reducible rfl
 intro a13 hE e24 kp; replace e19 := kt kp e19; apply Z03 25 hE k rfl rfl rfl rfl; case h =>
  simp [go_sem, ↓IntWalk.iteOmega, ev e19]
  with_reducible rfl
 intro a14 hE e25 kp; replace e24 := kt kp e24; refine Z0k O (cs := #[.int .i64 0, .slice none 0 0]) (t := 46) 11 hE k rfl (by rfl) (by rfl) rfl (by simp [go_sem, ↓IntWalk.iteOmega]) ?_
 clear O; intro lb a15 w16 O hE e11 kp; replace e24 := kt kp e24; replace e25 := kt kp e25; refine Z1f O 0 0 hE e11 e24 ?_
 clear O; intro w17 O; replace O : OwnT _ _ ((tBlk lb 46 #[.int .i64 ↑l, .slice Bv xs.length cv]) :: _) w17 := O
 refine sd 12 hE k (Z01 rfl e25) ?_; intro a18 hE e12 kp; replace e11 := kt kp e11; refine wpList_nil ?_; replace e0 := hE.g e0; replace e7 := hE.g e7; replace k := k.env hE; clear hE e1 e2; refine Z00 (wp_seq ?_); refine wp_seq ?_; refine wp_region_lit ?_
 have hE := Env.refl a18 [26, 27]; refine zm 26 hE k e12 ?_; intro a19 hE e26 kp; refine sd 27 hE k (Z05 (Z0q rfl e26 rfl) (decide_eq_false (by omega))) ?_
 intro a20 hE e27 kp; refine wpList_nil ?_; replace e0 := hE.g e0; replace e7 := hE.g e7; replace e11 := hE.g e11; replace e12 := hE.g e12; replace k := k.env hE; clear hE; refine Z00 ?_; refine Z06 e27 rfl ?_
 refine wp_skip ?_; refine Z00 ?_; replace O : OwnT _ _ ((tPs (.slice Bv xs.length cv) xs) :: (tBlk sb 49 #[.slice B N.length cap, .int .i64 room]) :: (tRow 46 2 (.slice B N.length cap) N.length (leafV vs N)) :: (tPool vs N) :: (tBlk lb 46 #[.int .i64 ↑l, .slice Bv xs.length cv]) :: (tBlk xb 103 #[.int .u64 ↑x.1, .int .u64 ↑x.2]) :: R) w17 := OwnT.pickR (L := [_, _, _, _, _, _]) (R := R) O [1, 2, 3, 4, 0, 5] (by decide)
 obtain ⟨gv, ev⟩ : ∃ gv, Bv = some ⟨gv, 0, none⟩ := by
  obtain ⟨g2, c2, _, e2, _⟩ := Z18 (OwnT.t0 O : World.ownsRow _ 0 103 2 _ xs.length _) (List.length_pos_iff.2 hne)
  injection e2 with e2; exact ⟨g2, e2⟩
 subst ev
 obtain ⟨_, _, e2, -, -, hrow, -⟩ := Z0x (OwnT.t0 O)
 injection e2 with e2 _ e3
 subst e2 e3
 obtain ⟨bb, hbb⟩ : ∃ b, decide (n < xs.length ∧ keyAt xs n = x.1) = b := ⟨_, rfl⟩
 refine wp_seq ?_; refine wp_region_lit ?_
 have hE := Env.refl a20 [30, 31, 32, 33, 29, 34, 35, 13, 14]; refine sd 30 hE k (Z1s O 4 rfl rfl (hE.g e11) [.int .i64 ↑l, .slice (some ⟨gv, 0, none⟩) xs.length cv] rfl Try.underlying46 rfl (by kernel_rfl)) ?_; intro a21 hE e30 kp; apply Z03 31 hE k rfl rfl rfl rfl; case h =>
  simp [go_sem, ↓IntWalk.iteOmega, ev (hE.g e7)]
  with_reducible rfl
 intro a22 hE e31 kp; replace e30 := kt kp e30; refine sd 32 hE k (Z08 O 5 rfl rfl e31 rfl Try.underlying71 rfl) ?_; intro a23 hE e32 kp; replace e30 := kt kp e30; apply Z09 33 hE k rfl (by rfl) (by rfl) rfl
 case h =>
  simp [go_sem, ↓IntWalk.iteOmega, ev e30, ev e32]
  with_reducible exact ⟨rfl, rfl⟩
 case hc => exact Z5i (l : Int) (some ⟨gv, 0, none⟩) xs.length cv xs _ rfl (by omega) hrow x.1 n hpl
 rintro e w25 ⟨rfl, RE⟩
 replace hrow := hrow.below RE
 replace O := OwnT.ext O RE; refine ⟨_, congrArg (fun b => Ending.returned (.tuple #[.int .i64 (n : Int), .bool b])) hbb, ?_⟩
 intro a24 hE e33 kp; refine sd 29 hE k (Z02 rfl e33) ?_; intro a26 hE e29 kp; apply Z03 34 hE k rfl rfl rfl rfl; case h =>
  simp [go_sem, ↓IntWalk.iteOmega, ev e29]
  with_reducible rfl
 intro a27 hE e34 kp; replace e29 := kt kp e29; apply Z03 35 hE k rfl rfl rfl rfl; case h =>
  simp [go_sem, ↓IntWalk.iteOmega, ev e29]
  with_reducible rfl
 intro a28 hE e35 kp; replace e34 := kt kp e34; refine sd 13 hE k (Z01 rfl e34) ?_; intro a29 hE e13 kp; replace e35 := kt kp e35; refine sd 14 hE k (Z01 rfl e35) ?_; intro a30 hE e14 kp; replace e13 := kt kp e13; refine wpList_nil ?_; replace e0 := hE.g e0; replace e7 := hE.g e7; replace e11 := hE.g e11; replace k := k.env hE; clear hE e12 e27; refine Z00 (wp_seq ?_); refine wp_block ?_; have hTk := hT
 rw [hl1] at hTk
 obtain ⟨A, y, Bk, LA, gA, Lx, gx, LB, gB, hxs, hAl, kA, kx, kB, hL, hgg, hlo, hhi⟩ := kid_split (k := x.1) (n := n) hTk hu (by rw [← hl1]; exact hnd) hpl
 obtain ⟨kn, hkn⟩ : ∃ k, kidN xs x.1 n = k := ⟨_, rfl⟩
 rw [hkn] at hAl
 have hkl : kn < xs.length := by rw [hxs]; simp; omega
 obtain ⟨cI, hcI⟩ : ∃ c : Int, (if n < xs.length ∧ keyAt xs n = x.1 then (n : Int) else (n : Int) - 1) = c := ⟨_, rfl⟩
 have hmx : max cI 0 = (kn : Int) := by rw [← hcI, ← hkn]; exact kid_max
 have hyk : xs[kn]? = some y := by rw [hxs, List.getElem?_append_right (by omega), hAl, Nat.sub_self]; rfl
 refine wp_seq ?_; refine wp_region_lit ?_
 have hE := Env.refl a30 [44, 45, 46, 43]; apply Z03 44 hE k rfl rfl rfl rfl; case h =>
  simp [go_sem, ↓IntWalk.iteOmega, ev (hE.g e11)]
  with_reducible rfl
 intro a31 hE e44 kp; refine sd 45 hE k (Z08 O 4 rfl rfl e44 rfl Try.underlying3 rfl) ?_; intro a32 hE e45 kp; refine sd 46 hE k (Z05 (Z2b rfl e45 rfl) (decide_eq_true (by omega))) ?_
 intro a33 hE e46 kp; refine sd 43 hE k (Z01 rfl e46) ?_; intro a34 hE e43 kp; refine wpList_nil ?_; replace e0 := hE.g e0; replace e7 := hE.g e7; replace e11 := hE.g e11; replace e13 := hE.g e13; replace e14 := hE.g e14; replace k := k.env hE; clear hE; refine Z00 ?_; refine Z0h e43 rfl ?_
 obtain ⟨Bq, cq, e2q, -, -, hrow, -⟩ := Z0x (OwnT.t0 O)
 injection e2q with e2q _ e3q
 subst e2q e3q
 refine wp_seq ?_; refine wp_region_lit ?_
 have hE := Env.refl a34 [47, 48, 49, 50, 51, 13]; refine sd 47 hE k (Z1s O 4 rfl rfl (hE.g e11) [.int .i64 ↑l, .slice (some ⟨gv, 0, none⟩) xs.length cv] rfl Try.underlying46 rfl (by kernel_rfl)) ?_; intro a35 hE e47 kp; apply Z03 48 hE k rfl rfl rfl rfl; case h =>
  simp [go_sem, ↓IntWalk.iteOmega, ev (hE.g e7)]
  with_reducible rfl
 intro a36 hE e48 kp; replace e47 := kt kp e47; refine sd 49 hE k (Z08 O 5 rfl rfl e48 rfl Try.underlying71 rfl) ?_; intro a37 hE e49 kp; replace e47 := kt kp e47; apply Z09 50 hE k rfl (by rfl) (by rfl) rfl
 case h =>
  simp [go_sem, ↓IntWalk.iteOmega, ev e47, ev e49]
  with_reducible exact ⟨rfl, rfl⟩
 case hc => exact child_any (l : Int) (some ⟨gv, 0, none⟩) xs.length cv xs _ rfl (by omega) hrow x.1 n hpl
 rintro e w39 ⟨rfl, RE⟩
 replace O := OwnT.ext O RE; refine ⟨_, congrArg (fun c => Ending.returned (.int .i64 c)) hcI, ?_⟩
 intro a38 hE e50 kp; refine sd 51 hE k (Z1c (v := .int .i64 (kn : Int)) (x_max rfl e50 rfl) (Z0s hmx)) ?_
 intro a40 hE e51 kp; refine sd 13 hE k (Z01 rfl e51) ?_; intro a41 hE e13 kp; refine wpList_nil ?_; replace e0 := hE.g e0; replace e7 := hE.g e7; replace e11 := hE.g e11; replace k := k.env hE; clear hE e14 e43; refine Z00 ?_; clear hrow; replace O : OwnT _ _ ((tBlk sb 49 #[.slice B N.length cap, .int .i64 room]) :: (tRow 46 2 (.slice B N.length cap) N.length (leafV vs N)) :: (tPool vs N) :: (tPs (.slice (some ⟨gv, 0, none⟩) xs.length cv) xs) :: (tBlk lb 46 #[.int .i64 ↑l, .slice (some ⟨gv, 0, none⟩) xs.length cv]) :: (tBlk xb 103 #[.int .u64 ↑x.1, .int .u64 ↑x.2]) :: R) w39 := OwnT.pickR (L := [_, _, _, _, _, _]) (R := R) O [1, 2, 3, 0, 4, 5] (by decide)
 have hkI : (kn : Int) < (xs.length : Int) := by omega
 have hy5 : y.2 ≤ 511 := by obtain ⟨r, e⟩ := Tr.one kx; have := Tr.pages kx y.2 (by rw [e]; simp); omega
 have hux2 : Up Lx.flatten ∧ (∀ z ∈ Lx.flatten, z ∈ L.flatten) := by
  rw [hL, List.flatten_append, List.flatten_append] at hu ⊢
  exact ⟨hu.app.2.1.app.1, fun z hz => by simp [hz]⟩
 have hgx : gx.Nodup := by rw [hgg] at hgn; exact ((List.nodup_append.1 (List.nodup_append.1 (List.nodup_cons.1 hgn).2).2.1).1)
 refine wp_seq ?_; refine Z4c (w0 := w39) 12 [[], [], [1], [], [1, 2, 3], [1, 2, 3, 4], [1, 2, 3, 4, 5], [1, 2, 3, 4, 5, 6], [], [8], [8, 9], [], rg 12, rg 13, rg 14, rg 14, rg 14, rg 15, [0, 1, 2, 3, 4, 5, 6, 7, 8, 9, 10, 11, 12, 13, 14, 15, 17], rg 19] [53, 54, 55, 56, 57, 58, 59, 60, 61, 62, 63, 64, 65, 52, 66, 67, 68, 15, 16, 17] (by kernel_rfl) ?_
 apply BuildL.detA 53 (fun _ w_ _ => Ext.refl w_) (fun _ _ h => h.upd (by rfl)) (by rfl) (by rw [k.size]; rfl) rfl
 case h =>
  intro lx ax wx hE hI hl hA hF; have hR := hI.pre (by rfl) hl
  exact Z02 rfl (hE.g e0)
 apply BuildL.detA 54 (fun _ w_ _ => Ext.refl w_) (fun _ _ h => h.upd (by rfl)) (by rfl) (by rw [k.size]; rfl) rfl
 case h =>
  intro lx ax wx hE hI hl hA hF; have hR := hI.pre (by rfl) hl
  simp [go_sem, ↓IntWalk.iteOmega, ev (hE.g e11)]
  with_reducible rfl
 apply BuildL.detA 55 (fun _ w_ _ => Ext.refl w_) (fun _ _ h => h.upd (by rfl)) (by rfl) (by rw [k.size]; rfl) rfl
 case h =>
  intro lx ax wx hE hI hl hA hF; have e54 := hF 1 (detL 1 54 _) (by decide) ml0
  have hR := hI.pre (by rfl) hl
  exact Z08 (OwnT.ext O hR) 4 rfl rfl e54 rfl Try.underlying44 rfl
 apply BuildL.detA 56 (fun _ w_ _ => Ext.refl w_) (fun _ _ h => h.upd (by rfl)) (by rfl) (by rw [k.size]; rfl) rfl
 case h =>
  intro lx ax wx hE hI hl hA hF; have hR := hI.pre (by rfl) hl
  exact Z02 rfl (hE.g e13)
 apply BuildL.detA 57 (fun _ w_ _ => Ext.refl w_) (fun _ _ h => h.upd (by rfl)) (by rfl) (by rw [k.size]; rfl) rfl
 case h =>
  intro lx ax wx hE hI hl hA hF; have e55 := hF 2 (detL 2 55 _) (by decide) ml1
  have e56 := hF 3 (detL 3 56 _) (by decide) ml0
  have hR := hI.pre (by rfl) hl
  simp [go_sem, ↓IntWalk.iteOmega, ev e55, ev e56]
  with_reducible rfl
 apply BuildL.detA 58 (fun _ w_ _ => Ext.refl w_) (fun _ _ h => h.upd (by rfl)) (by rfl) (by rw [k.size]; rfl) rfl
 case h =>
  intro lx ax wx hE hI hl hA hF; have e57 := hF 4 (detL 4 57 _) (by decide) ml0
  have hR := hI.pre (by rfl) hl
  simp [go_sem, ↓IntWalk.iteOmega, ev e57]
  with_reducible rfl
 apply BuildL.detA 59 (fun _ w_ _ => Ext.refl w_) (fun _ _ h => h.upd (by rfl)) (by rfl) (by rw [k.size]; rfl) rfl
 case h =>
  intro lx ax wx hE hI hl hA hF; have e58 := hF 5 (detL 5 58 _) (by decide) ml0
  have hR := hI.pre (by rfl) hl
  have cy : wx.cell? ⟨gv, kn * 2 + 1, none⟩ = some (.int .u64 (y.2 : Int)) := by obtain ⟨_, _, e2, _, _, h, _⟩ := Z0x (OwnT.get (OwnT.ext O hR) 3 rfl : (tPs (.slice (some ⟨gv, 0, none⟩) xs.length cv) xs).holds wx); injection e2 with e2 _ e3; subst e2; obtain ⟨b, o, e, _, hc⟩ := h kn y hyk; injection e with e; injection e with e e'; subst e e'; have := hc 1 _ rfl; rwa [Nat.zero_add] at this
  simp [go_sem, ↓IntWalk.iteOmega, ev e58, cy]
  with_reducible rfl
 apply BuildL.detA 60 (fun _ w_ _ => Ext.refl w_) (fun _ _ h => h.upd (by rfl)) (by rfl) (by rw [k.size]; rfl) rfl
 case h =>
  intro lx ax wx hE hI hl hA hF; have e59 := hF 6 (detL 6 59 _) (by decide) ml0
  have hR := hI.pre (by rfl) hl
  exact Z2r rfl e59 (Z2g y.2 _ (by omega))
 apply BuildL.detA 61 (fun _ w_ _ => Ext.refl w_) (fun _ _ h => h.upd (by rfl)) (by rfl) (by rw [k.size]; rfl) rfl
 case h =>
  intro lx ax wx hE hI hl hA hF; have hR := hI.pre (by rfl) hl
  simp [go_sem, ↓IntWalk.iteOmega, ev (hE.g e11)]
  with_reducible rfl
 apply BuildL.detA 62 (fun _ w_ _ => Ext.refl w_) (fun _ _ h => h.upd (by rfl)) (by rfl) (by rw [k.size]; rfl) rfl
 case h =>
  intro lx ax wx hE hI hl hA hF; have e61 := hF 8 (detL 8 61 _) (by decide) ml0
  have hR := hI.pre (by rfl) hl
  exact Z08 (OwnT.ext O hR) 4 rfl rfl e61 rfl Try.underlying3 rfl
 apply BuildL.detA 63 (fun _ w_ _ => Ext.refl w_) (fun _ _ h => h.upd (by rfl)) (by rfl) (by rw [k.size]; rfl) rfl
 case h =>
  intro lx ax wx hE hI hl hA hF; have e62 := hF 9 (detL 9 62 _) (by decide) ml0
  have hR := hI.pre (by rfl) hl
  exact Z1c (v := .int .i64 (l1 : Int)) (Z5q rfl e62 rfl (by omega)) (Z0s (by omega))
 apply BuildL.detA 64 (fun _ w_ _ => Ext.refl w_) (fun _ _ h => h.upd (by rfl)) (by rfl) (by rw [k.size]; rfl) rfl
 case h =>
  intro lx ax wx hE hI hl hA hF; have hR := hI.pre (by rfl) hl
  exact Z1s (OwnT.ext O hR) 5 rfl rfl (hE.g e7) [.int .u64 ↑x.1, .int .u64 ↑x.2] rfl Try.underlying103 rfl (by kernel_rfl)
 refine BuildL.callnew 65 (fun v_ w_ => ∃ N' o es er lv B' cap' vs', v_ = .tuple #[o, .int .i64 lv, .int .i64 er] ∧ OwnT H A0 (tPs o es :: shT sb room B' cap' vs' N' (tPs (.slice (some ⟨gv, 0, none⟩) xs.length cv) xs :: (tBlk lb 46 #[.int .i64 ↑l, .slice (some ⟨gv, 0, none⟩) xs.length cv]) :: (tBlk xb 103 #[.int .u64 ↑x.1, .int .u64 ↑x.2]) :: R)) w_ ∧ PutE N N' room l1 y.2 x Lx gx es er lv) (fun l v_ w_ w2_ hl hR h => by obtain ⟨N1, o, es, er, lv, B1, cap1, vs1, hv, O, hPE⟩ := h; exact ⟨N1, o, es, er, lv, B1, cap1, vs1, hv, OwnT.ext O (hR hl), hPE⟩) (by rfl) (by rw [k.size]; rfl) rfl ?_ ?_
 · intro lx ax wx hE hI hl hA hF; have e53 := hF 0 (detL 0 53 _) (by decide) ml11
   have e60 := hF 7 (detL 7 60 _) (by decide) ml4
   have e63 := hF 10 (detL 10 63 _) (by decide) ml1
   have e64 := hF 11 (detL 11 64 _) (by decide) ml0
   have hR := hI.1 hl
   refine ⟨_, _, by simp [go_sem, ↓IntWalk.iteOmega, ev e53, ev e60, ev e63, ev e64], (ih (R := (tPs (.slice (some ⟨gv, 0, none⟩) xs.length cv) xs :: (tBlk lb 46 #[.int .i64 ↑l, .slice (some ⟨gv, 0, none⟩) xs.length cv]) :: (tBlk xb 103 #[.int .u64 ↑x.1, .int .u64 ↑x.2]) :: R)) (p := y.2) (q0 := (l1 : Int)) (x := x) wx (OwnT.ext O hR) kx hux2.1 hgx (by omega) hN (fun z hz => hwf z (hux2.2 z hz)) hx (.inr rfl)).mono ?_⟩
   rintro e w' ⟨N1, o, es, er, lv, B1, cap1, vs1, rfl, O, hPE⟩
   exact ⟨_, rfl, fun h => absurd (hl.symm.trans h) Bool.false_ne_true, IM.at_ hA, N1, o, es, er, lv, B1, cap1, vs1, rfl, O, hPE⟩
 refine BuildL.rel 52 65 (fun v => v) (by rfl) (fun _ w_ _ => Ext.refl w_) (fun _ _ h => h.upd (by rfl)) (by rfl) (by rw [k.size]; rfl) rfl ?_ ?_
 · intro lx ax wx hE hI hF; exact Z02 rfl rfl
 refine BuildL.rel 66 65 (fun v => projV v 0) (by rfl) (fun _ w_ _ => Ext.refl w_) (fun _ _ h => h.upd (by rfl)) (by rfl) (by rw [k.size]; rfl) rfl ?_ ?_
 · intro lx ax wx hE hI hF; have e52 : ax.eval (.tmp 52) = _ := hF 13 (relL 13 52 65 (fun v => v)) (by decide) ml0
   have fic := hF 12 _ (by decide) ml1
   obtain ⟨N1, o, es, er, lv, B1, cap1, vs1, hv, O, hPE⟩ := fic
   rw [hv]
   rw [hv] at e52
   simp [go_sem, ↓IntWalk.iteOmega, ev e52, projV]
 refine BuildL.rel 67 65 (fun v => projV v 1) (by rfl) (fun _ w_ _ => Ext.refl w_) (fun _ _ h => h.upd (by rfl)) (by rfl) (by rw [k.size]; rfl) rfl ?_ ?_
 · intro lx ax wx hE hI hF; have e52 : ax.eval (.tmp 52) = _ := hF 13 (relL 13 52 65 (fun v => v)) (by decide) ml1
   have fic := hF 12 _ (by decide) ml2
   obtain ⟨N1, o, es, er, lv, B1, cap1, vs1, hv, O, hPE⟩ := fic
   rw [hv]
   rw [hv] at e52
   simp [go_sem, ↓IntWalk.iteOmega, ev e52, projV]
 refine BuildL.rel 68 65 (fun v => projV v 2) (by rfl) (fun _ w_ _ => Ext.refl w_) (fun _ _ h => h.upd (by rfl)) (by rfl) (by rw [k.size]; rfl) rfl ?_ ?_
 · intro lx ax wx hE hI hF; have e52 : ax.eval (.tmp 52) = _ := hF 13 (relL 13 52 65 (fun v => v)) (by decide) ml2
   have fic := hF 12 _ (by decide) ml3
   obtain ⟨N1, o, es, er, lv, B1, cap1, vs1, hv, O, hPE⟩ := fic
   rw [hv]
   rw [hv] at e52
   simp [go_sem, ↓IntWalk.iteOmega, ev e52, projV]
 refine BuildL.rel 15 65 (fun v => projV v 0) (by rfl) (fun _ w_ _ => Ext.refl w_) (fun _ _ h => h.upd (by rfl)) (by rfl) (by rw [k.size]; rfl) rfl ?_ ?_
 · intro lx ax wx hE hI hF; have e66 : ax.eval (.tmp 66) = _ := hF 14 (relL 14 66 65 (fun v => projV v 0)) (by decide) ml2
   exact Z01 rfl e66
 refine BuildL.rel 16 65 (fun v => projV v 1) (by rfl) (fun _ w_ _ => Ext.refl w_) (fun _ _ h => h.upd (by rfl)) (by rfl) (by rw [k.size]; rfl) rfl ?_ ?_
 · intro lx ax wx hE hI hF; have e67 : ax.eval (.tmp 67) = _ := hF 15 (relL 15 67 65 (fun v => projV v 1)) (by decide) ml2
   exact Z01 rfl e67
 refine BuildL.rel 17 65 (fun v => projV v 2) (by rfl) (fun _ w_ _ => Ext.refl w_) (fun _ _ h => h.upd (by rfl)) (by rfl) (by rw [k.size]; rfl) rfl ?_ ?_
 · intro lx ax wx hE hI hF; have e68 : ax.eval (.tmp 68) = _ := hF 16 (relL 16 68 65 (fun v => projV v 2)) (by decide) ml2
   exact Z01 rfl e68
 apply BuildL.stop
 refine ⟨by kernel_rfl, ?_⟩
 clear O; intro lx a42 w43 hE hI hL hF; clear hI hL; have fic := hF 12 _ ml7
 have e15 : a42.eval (.tmp 15) = _ := hF 17 (relL 17 15 65 (fun v => projV v 0)) ml2
 have e17 : a42.eval (.tmp 17) = _ := hF 19 (relL 19 17 65 (fun v => projV v 2)) ml0
 clear hF; obtain ⟨N1, o, es, er, lv, B1, cap1, vs1, hv, O, hPE⟩ := fic
 rw [hv] at e15
 replace e15 : a42.eval (.tmp 15) = o := e15
 rw [hv] at e17
 replace e17 : a42.eval (.tmp 17) = .int .i64 er := e17
 clear hv; replace e0 := hE.g e0; replace e11 := hE.g e11; replace e13 := hE.g e13; replace k := k.env hE; clear hE e7; refine Z00 ?_; rcases hPE with ⟨rfl, hM1, hrm⟩ | ⟨rfl, rfl, hPR⟩
 · skip
   refine wp_seq ?_; refine wp_seq ?_; refine wp_region_lit ?_
   have hE := Env.refl a42 [69, 70]; refine zm 69 hE k e17 ?_; intro a44 hE e69 kp; refine sd 70 hE k (Z0q rfl e69 rfl) ?_; intro a45 hE e70 kp; refine wpList_nil ?_; replace e0 := hE.g e0; replace e11 := hE.g e11; replace e13 := hE.g e13; replace e15 := hE.g e15; replace e17 := hE.g e17; replace k := k.env hE; clear hE; refine Z00 ?_; refine Z0h e70 rfl ?_
   refine wp_seq ?_; refine wp_region_lit ?_
   have hE := Env.refl a45 [71, 8, 9, 10]; refine zm 71 hE k e17 ?_; intro a46 hE e71 kp; refine sd 8 hE k (Z01 rfl rfl) ?_; intro a47 hE e8 kp; replace e71 := kt kp e71; refine sd 9 hE k (Z01 rfl rfl) ?_; intro a48 hE e9 kp; replace e71 := kt kp e71; replace e8 := kt kp e8; refine sd 10 hE k (Z01 rfl e71) ?_; intro a49 hE e10 kp; replace e8 := kt kp e8; replace e9 := kt kp e9; refine wpList_nil ?_; replace k := k.env hE; clear hE e0 e11 e13 e15 e17 e70; refine Z00 ?_; refine wp_ret ?_
   refine Z0o ?_
   refine Z1l ?_
   refine Z0o ?_
   obtain ⟨M1, rfl, hM1⟩ := hM1
   have O2 := OwnT.nilRow (OwnT.pickR (L := [_, _, _, _, _, _, _]) (R := R) O [1, 2, 3] (by decide)) 103 2
   refine Z7n rfl k e8 e9 e10 ?_
   exact ⟨N ++ M1, _, [], 6, 0, B1, cap1, vs1, rfl, O2, .inl ⟨rfl, ⟨M1, rfl, by omega⟩, fun h => hrm (by omega)⟩⟩
 · skip
   have hes := hPR.one
   have hap := hPR.app
   refine wp_seq ?_; refine wp_seq ?_; refine wp_region_lit ?_
   have hE := Env.refl a42 [69, 70]; refine zm 69 hE k e17 ?_; intro a50 hE e69 kp; refine sd 70 hE k (Z0q rfl e69 rfl) ?_; intro a51 hE e70 kp; refine wpList_nil ?_; replace e0 := hE.g e0; replace e11 := hE.g e11; replace e13 := hE.g e13; replace e15 := hE.g e15; replace e17 := hE.g e17; replace k := k.env hE; clear hE; refine Z00 ?_; refine Z06 e70 rfl ?_
   refine wp_skip ?_; refine Z00 ?_; replace O : OwnT _ _ ((tPs (.slice (some ⟨gv, 0, none⟩) xs.length cv) xs) :: (tPs o es) :: (tBlk sb 49 #[.slice B1 N1.length cap1, .int .i64 room]) :: (tRow 46 2 (.slice B1 N1.length cap1) N1.length (leafV vs1 N1)) :: (tPool vs1 N1) :: (tBlk lb 46 #[.int .i64 ↑l, .slice (some ⟨gv, 0, none⟩) xs.length cv]) :: (tBlk xb 103 #[.int .u64 ↑x.1, .int .u64 ↑x.2]) :: R) w43 := OwnT.pickR (L := [_, _, _, _, _, _, _]) (R := R) O [4, 0, 1, 2, 3, 5, 6] (by decide)
   obtain ⟨ys, hys⟩ : ∃ ys, xs.take kn ++ es ++ xs.drop (kn + 1) = ys := ⟨_, rfl⟩
   have hyAB : A ++ (es ++ Bk) = ys := by rw [← hys, hxs, ← hAl, List.take_left, show A.length + 1 = A.length + 1 from rfl, List.drop_append, List.append_assoc]; simp
   have hgl : ∀ q ∈ g, q ≤ N.length := fun q hq => (Tr.pages hT q hq).2
   obtain ⟨hput, hy16, hy0⟩ := put_node (n := 0) (x := x) (by rw [← hl1, ← hxs]; exact hnd) (by rw [← hxs]; exact h15) kA kB hL hgg hgn hgl hlo hhi hPR
   rw [hyAB] at hput hy16 hy0
   have hyp := List.length_pos_iff.2 hy0
   have hN1l : N1.length ≤ 600 := by obtain ⟨M1, rfl, hM1⟩ := hap; rw [List.length_append]; omega
   refine wp_region_lit ?_
   have hE := Env.refl a51 [72, 73, 74, 75, 76, 77, 78, 79]; apply Z03 72 hE k rfl rfl rfl rfl; case h =>
    simp [go_sem, ↓IntWalk.iteOmega, ev (hE.g e11)]
    with_reducible rfl
   intro a52 hE e72 kp; refine sd 73 hE k (Z08 O 5 rfl rfl e72 rfl Try.underlying44 rfl) ?_; intro a53 hE e73 kp; refine zm 74 hE k e13 ?_; intro a54 hE e74 kp; replace e73 := kt kp e73; refine zm 75 hE k e13 ?_; intro a55 hE e75 kp; replace e73 := kt kp e73; replace e74 := kt kp e74; refine sd 76 hE k (Z11 rfl e75 rfl (by omega)) ?_; intro a56 hE e76 kp; replace e73 := kt kp e73; replace e74 := kt kp e74; refine zm 77 hE k e15 ?_; intro a57 hE e77 kp; replace e73 := kt kp e73; replace e74 := kt kp e74; replace e76 := kt kp e76; apply Z09 78 hE k rfl (by rfl) (by rfl) rfl
   case h =>
    simp [go_sem, ↓IntWalk.iteOmega, ev e73, ev e74, ev e76, ev e77]
    with_reducible exact ⟨rfl, rfl⟩
   case hc => exact Z6v _ o kn xs es _ O hkl (by omega) (by omega)
   clear O; rintro e w59 ⟨v', rfl, O⟩
   rw [hys] at O
   obtain ⟨g3, c3, rfl⟩ := OwnT.slice0 O hyp
   refine ⟨_, rfl, ?_⟩
   intro a58 hE e78 kp; apply Z03 79 hE k rfl rfl rfl rfl; case h =>
    simp [go_sem, ↓IntWalk.iteOmega, ev (hE.g e11)]
    with_reducible rfl
   intro a60 hE e79 kp; replace e78 := kt kp e78; refine Z1f O 5 1 hE e79 e78 ?_
   clear O; intro w61 O; replace O : OwnT _ _ (_ :: _ :: _ :: _ :: _ :: (tBlk lb 46 #[.int .i64 ↑l, .slice (some ⟨g3, 0, none⟩) ys.length c3]) :: _) w61 := O
   refine wpList_nil ?_; replace e0 := hE.g e0; replace e11 := hE.g e11; replace k := k.env hE; clear hE e13 e15 e17 e70 e78 e79; refine Z0u ?_; refine Z00 ?_; replace O : OwnT _ _ ((tPs (.slice (some ⟨g3, 0, none⟩) ys.length c3) ys) :: (tBlk sb 49 #[.slice B1 N1.length cap1, .int .i64 room]) :: (tRow 46 2 (.slice B1 N1.length cap1) N1.length (leafV vs1 N1)) :: (tPool vs1 N1) :: (tBlk lb 46 #[.int .i64 ↑l, .slice (some ⟨g3, 0, none⟩) ys.length c3]) :: (tBlk xb 103 #[.int .u64 ↑x.1, .int .u64 ↑x.2]) :: R) w61 := OwnT.pickR (L := [_, _, _, _, _, _, _]) (R := R) O [0, 2, 3, 4, 5, 6] (by decide)
   refine wp_seq ?_; refine wp_region_lit ?_
   have hE := Env.refl a60 [88, 89, 90, 91, 92, 93, 87, 94, 95, 18, 12]; refine zm 88 hE k e0 ?_; intro a62 hE e88 kp; apply Z03 89 hE k rfl rfl rfl rfl; case h =>
    simp [go_sem, ↓IntWalk.iteOmega, ev (hE.g e11)]
    with_reducible rfl
   intro a63 hE e89 kp; replace e88 := kt kp e88; refine sd 90 hE k (Z08 O 4 rfl rfl e89 rfl Try.underlying3 rfl) ?_; intro a64 hE e90 kp; replace e88 := kt kp e88; apply Z03 91 hE k rfl rfl rfl rfl; case h =>
    simp [go_sem, ↓IntWalk.iteOmega, ev (hE.g e11)]
    with_reducible rfl
   intro a65 hE e91 kp; replace e88 := kt kp e88; replace e90 := kt kp e90; refine sd 92 hE k (Z08 O 4 rfl rfl e91 rfl Try.underlying44 rfl) ?_; intro a66 hE e92 kp; replace e88 := kt kp e88; replace e90 := kt kp e90; apply Z09 93 hE k rfl (by rfl) (by rfl) rfl
   case h =>
    simp [go_sem, ↓IntWalk.iteOmega, ev e88, ev e90, ev e92]
    with_reducible exact ⟨rfl, rfl⟩
   case hc => exact tadded (R := _ :: _ :: R) _ O (by omega) hy16
   clear O; rintro e w68 ⟨M, es, er, o, B2, cap2, vs2, rfl, hA, O⟩
   refine ⟨_, rfl, ?_⟩
   intro a67 hE e93 kp; refine sd 87 hE k (Z02 rfl e93) ?_; intro a69 hE e87 kp; apply Z03 94 hE k rfl rfl rfl rfl; case h =>
    simp [go_sem, ↓IntWalk.iteOmega, ev e87]
    with_reducible rfl
   intro a70 hE e94 kp; replace e87 := kt kp e87; apply Z03 95 hE k rfl rfl rfl rfl; case h =>
    simp [go_sem, ↓IntWalk.iteOmega, ev e87]
    with_reducible rfl
   intro a71 hE e95 kp; replace e94 := kt kp e94; refine sd 18 hE k (Z01 rfl e94) ?_; intro a72 hE e18 kp; replace e95 := kt kp e95; refine sd 12 hE k (Z01 rfl e95) ?_; intro a73 hE e12 kp; replace e18 := kt kp e18; refine wpList_nil ?_; replace e11 := hE.g e11; replace k := k.env hE; clear hE e0; refine Z00 (wp_seq ?_); refine Z0b (R := Ext) (w0 := w68) [[], [], [1], [], [0], [0, 1, 2, 4], rg 6] [96, 97, 98, 99, 8, 9, 10] Ext.refl (fun _ _ _ => Ext.trans) (Ext.drew _) (by kernel_rfl) ?_
   refine bd 96 k rfl rfl rfl (fun ax wx hE hR hF => Z02 rfl (hE.g e18)) ?_
   apply bd 97 k rfl rfl rfl; case h =>
    intro ax wx hE hR hF; simp [go_sem, ↓IntWalk.iteOmega, ev (hE.g e11)]
    with_reducible rfl
   refine bd 98 k rfl rfl rfl (fun ax wx hE hR hF => have e97 := zhF hF 1 97 ml0; Z08 (OwnT.ext O hR) 5 rfl rfl e97 rfl Try.underlying3 rfl) ?_
   refine bd 99 k rfl rfl rfl (fun ax wx hE hR hF => Z02 rfl (hE.g e12)) ?_
   refine bd 8 k rfl rfl rfl (fun ax wx hE hR hF => have e96 := zhF hF 0 96 ml3; Z01 rfl e96) ?_
   refine bd 9 k rfl rfl rfl (fun ax wx hE hR hF => have e98 := zhF hF 2 98 ml2; Z01 rfl e98) ?_
   refine bd 10 k rfl rfl rfl (fun ax wx hE hR hF => have e99 := zhF hF 3 99 ml2; Z01 rfl e99) ?_
   apply Build.stop
   refine ⟨by kernel_rfl, .inl ⟨rfl, ?_⟩⟩
   intro a74 w75 hE R hF; have e8 : a74.eval (.tmp 8) = _ := hF 4 (det 8 _) ml2
   have e9 : a74.eval (.tmp 9) = _ := hF 5 (det 9 _) ml1
   have e10 : a74.eval (.tmp 10) = _ := hF 6 (det 10 _) ml0
   clear hF; replace O := OwnT.ext O R; clear R; replace k := k.env hE; clear hE e11 e12 e18; refine Z00 ?_; refine wp_ret ?_
   have O2 := OwnT.pickR (L := [_, _, _, _, _, _, _]) (R := R) O [0, 2, 3, 4] (by decide)
   obtain ⟨hM2, hA⟩ := hA
   refine Z7n rfl k e8 e9 e10 ?_
   exact ⟨_, o, es, er, _, B2, cap2, vs2, rfl, O2, putE_node hl1 hap hM2 hA hput⟩
theorem tput : ∀ l, PutOk l
 | 0 => fun w O hT hu hgn h7 hN hwf hx h0 => tput_leaf w O hT hu hgn h7 hN hwf hx h0 rfl
 | l + 1 => fun w O hT hu hgn h7 hN hwf hx h0 => tput_node w O hT hu hgn h7 hN hwf hx h0 rfl (tput l)
end Go.Proofs.Ytbfgacmfjfbooaa
