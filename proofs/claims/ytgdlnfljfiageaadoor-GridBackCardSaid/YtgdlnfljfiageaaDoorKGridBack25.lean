/- Texts of rows are read back, plain. -/
import Derived.Test.YtgdlnfljfiageaaDoorKGridBack22
import Derived.Test.YtgdlnfljfiageaaDoorKGridBack17
namespace Go.Proofs.YtgdlnfljfiageaaDoor
set_option linter.unusedVariables false
set_option linter.unusedSimpArgs false
/-- A rune's bytes in a good cell. -/
def Ch (c : List UInt8) : Prop := c ≠ [] ∧ (∀ y ∈ c, y ≠ 10) ∧ (∀ y ∈ c.tail, y ≠ 226) ∧ ∀ q : List UInt8, bar.isPrefixOf (c ++ q) = false
def Wh (p : List UInt8) : Prop := ∃ cs : List (List UInt8), p = cs.flatten ∧ ∀ c ∈ cs, Ch c
set_option maxHeartbeats 4000000 in
theorem Z6i {n b0 b1 b2 b3 r d : Nat} (h : Lib.decodeN n b0 b1 b2 b3 = (r, d)) (h1 : ¬ (r = 65533 ∧ d = 1)) (h2 : ¬ (r < 32 ∨ r = 127 ∨ r = 9474)) (h0 : b0 < 256) :
    (d = 1 ∧ 32 ≤ b0 ∧ b0 < 128) ∨ (d = 2 ∧ 2 ≤ n ∧ 192 ≤ b0 ∧ b0 < 224 ∧ 128 ≤ b1 ∧ b1 < 192) ∨ (d = 3 ∧ 3 ≤ n ∧ 224 ≤ b0 ∧ b0 < 240 ∧ 128 ≤ b1 ∧ b1 < 192 ∧ 128 ≤ b2 ∧ b2 < 192 ∧ ¬ (b0 = 226 ∧ b1 = 148 ∧ b2 = 130)) ∨ (d = 4 ∧ 4 ≤ n ∧ 240 ≤ b0 ∧ b0 < 248 ∧ 128 ≤ b1 ∧ b1 < 192 ∧ 128 ≤ b2 ∧ b2 < 192 ∧ 128 ≤ b3 ∧ b3 < 192) := by
  unfold Lib.decodeN at h
  repeat' split at h
  all_goals (injection h with g1 g2; first | (exfalso; omega) | omega)
theorem Z5h {b : UInt8} (h : b.toNat ≠ 10) : b ≠ 10 := fun e => h (by rw [e]; rfl)
theorem Z2y {b : UInt8} (h : b.toNat ≠ 226) : b ≠ 226 := fun e => h (by rw [e]; rfl)
theorem Z60 {b : UInt8} {t q : List UInt8} (h : b ≠ 226) : bar.isPrefixOf (b :: t ++ q) = false := by
  show List.isPrefixOf (226 :: [148, 130]) (b :: (t ++ q)) = false
  rw [List.isPrefixOf_cons_cons, Bool.and_eq_false_iff]
  exact .inl (beq_eq_false_iff_ne.2 (fun e => h e.symm))
theorem ch1 {a : UInt8} (h1 : 32 ≤ a.toNat) (h2 : a.toNat < 128) : Ch [a] :=
  ⟨by simp, fun y hy => by rw [List.mem_singleton.1 hy]; exact Z5h (by omega), fun y hy => by simp at hy, fun q => Z60 (Z2y (by omega))⟩
theorem ch_of {a : UInt8} {t : List UInt8} (h1 : 192 ≤ a.toNat) (ht : ∀ y ∈ t, 128 ≤ y.toNat ∧ y.toNat < 192) (hp : ∀ q, bar.isPrefixOf (a :: t ++ q) = false) : Ch (a :: t) := by
  refine ⟨by simp, fun y hy => ?_, fun y hy => ?_, hp⟩
  · rcases List.mem_cons.1 hy with rfl | hy
    · exact Z5h (by omega)
    · exact Z5h (by have := ht y hy; omega)
  · exact Z2y (by have := ht y hy; omega)
theorem take1 {l : List UInt8} (h : 1 ≤ l.length) : l.take 1 = [l.getD 0 0] := by
  match l, h with
  | _ :: _, _ => rfl
theorem take2 {l : List UInt8} (h : 2 ≤ l.length) : l.take 2 = [l.getD 0 0, l.getD 1 0] := by
  match l, h with
  | _ :: _ :: _, _ => rfl
theorem take3 {l : List UInt8} (h : 3 ≤ l.length) : l.take 3 = [l.getD 0 0, l.getD 1 0, l.getD 2 0] := by
  match l, h with
  | _ :: _ :: _ :: _, _ => rfl
theorem take4 {l : List UInt8} (h : 4 ≤ l.length) : l.take 4 = [l.getD 0 0, l.getD 1 0, l.getD 2 0, l.getD 3 0] := by
  match l, h with
  | _ :: _ :: _ :: _ :: _, _ => rfl
theorem ch_dec {l : List UInt8} (hne : l ≠ []) (hb : badR (dec l) = false) : Ch (l.take (dec l).2) := by
  obtain ⟨r, d, hd⟩ : ∃ r d, dec l = (r, d) := ⟨_, _, rfl⟩
  have hlen := List.length_pos_iff.2 hne
  rw [hd] at hb ⊢
  unfold badR at hb
  rw [Bool.or_eq_false_iff, beq_eq_false_iff_ne] at hb
  have h2 : ¬ (r < 32 ∨ r = 127 ∨ r = 9474) := by have := hb.2; unfold oddB at this; rwa [decide_eq_false_iff_not] at this
  unfold dec at hd
  rcases Z6i hd (fun h => hb.1 (by rw [h.1, h.2])) h2 (l.getD 0 0).toNat_lt with ⟨rfl, a1, a2⟩ | ⟨rfl, n1, a1, a2, a3, a4⟩ | ⟨rfl, n1, a1, a2, a3, a4, a5, a6, a7⟩ | ⟨rfl, n1, a1, a2, a3, a4, a5, a6, a7, a8⟩
  · show Ch (l.take 1)
    rw [take1 hlen]
    exact ch1 a1 a2
  · show Ch (l.take 2)
    rw [take2 n1]
    refine ch_of a1 (fun y hy => ?_) (fun q => Z60 (Z2y (by omega)))
    rw [List.mem_singleton.1 hy]
    exact ⟨a3, a4⟩
  · show Ch (l.take 3)
    rw [take3 n1]
    refine ch_of (by omega) (fun y hy => ?_) (fun q => ?_)
    · simp only [List.mem_cons, List.not_mem_nil, or_false] at hy
      rcases hy with rfl | rfl
      · exact ⟨a3, a4⟩
      · exact ⟨a5, a6⟩
    · show List.isPrefixOf [226, 148, 130] (l.getD 0 0 :: l.getD 1 0 :: l.getD 2 0 :: q) = false
      rw [List.isPrefixOf_cons_cons, List.isPrefixOf_cons_cons, List.isPrefixOf_cons_cons]
      by_cases e0 : l.getD 0 0 = 226
      · by_cases e1 : l.getD 1 0 = 148
        · by_cases e2 : l.getD 2 0 = 130
          · exact absurd ⟨by rw [e0]; rfl, by rw [e1]; rfl, by rw [e2]; rfl⟩ a7
          · have : ((130 : UInt8) == l.getD 2 0) = false := beq_eq_false_iff_ne.2 (fun e => e2 e.symm)
            rw [this]; simp
        · have : ((148 : UInt8) == l.getD 1 0) = false := beq_eq_false_iff_ne.2 (fun e => e1 e.symm)
          rw [this]; simp
      · have : ((226 : UInt8) == l.getD 0 0) = false := beq_eq_false_iff_ne.2 (fun e => e0 e.symm)
        rw [this]; simp
  · show Ch (l.take 4)
    rw [take4 n1]
    refine ch_of (by omega) (fun y hy => ?_) (fun q => Z60 (Z2y (by omega)))
    simp only [List.mem_cons, List.not_mem_nil, or_false] at hy
    rcases hy with rfl | rfl | rfl
    · exact ⟨a3, a4⟩
    · exact ⟨a5, a6⟩
    · exact ⟨a7, a8⟩
theorem Z48 : ∀ (n : Nat) (l : List UInt8), l.length ≤ n → (∀ x ∈ runesL l, badR x = false) → Wh l
  | 0, l, h, _ => ⟨[], List.eq_nil_of_length_eq_zero (by omega), fun c hc => by cases hc⟩
  | n + 1, l, h, hb => by
    by_cases hne : l = []
    · exact ⟨[], hne, fun c hc => by cases hc⟩
    · have hd := Z1n hne
      rw [Z19 hne] at hb
      obtain ⟨cs, e, hcs⟩ := Z48 n (l.drop (dec l).2) (by rw [List.length_drop]; omega) (fun x hx => hb x (List.mem_cons_of_mem _ hx))
      refine ⟨l.take (dec l).2 :: cs, ?_, fun c hc => ?_⟩
      · rw [List.flatten_cons, ← e, List.take_append_drop]
      · rcases List.mem_cons.1 hc with rfl | hc
        · exact ch_dec hne (hb _ (List.mem_cons_self ..))
        · exact hcs c hc
theorem Z1x {l : List UInt8} (h : goodB l = true) : (∀ x ∈ runesL l, badR x = false) ∧ l.getLast? ≠ some 32 := by
  rw [Z55, Bool.and_eq_true, Bool.and_eq_true, List.all_eq_true, bne_iff_ne, bne_iff_ne] at h
  exact ⟨fun x hx => by have := h.1.1 x hx; rwa [Bool.not_eq_true'] at this, h.2⟩
theorem Z5g {l : List UInt8} (h : goodB l = true) : Wh l := Z48 l.length l (Nat.le_refl _) (Z1x h).1
theorem Wh.sp {l : List UInt8} (h : Wh l) (k : Nat) : Wh (l ++ List.replicate k 32) := by
  obtain ⟨cs, rfl, hcs⟩ := h
  refine ⟨cs ++ List.replicate k [32], ?_, fun c hc => ?_⟩
  · rw [List.flatten_append]
    congr 1
    induction k with
    | zero => rfl
    | succ k ih => rw [List.replicate_succ, List.replicate_succ, List.flatten_cons, ← ih]; rfl
  · rcases List.mem_append.1 hc with hc | hc
    · exact hcs c hc
    · rw [(List.mem_replicate.1 hc).2]
      exact ch1 (by decide) (by decide)
theorem Wh.no10 {l : List UInt8} (h : Wh l) : ∀ y ∈ l, y ≠ 10 := by
  obtain ⟨cs, rfl, hcs⟩ := h
  intro y hy
  obtain ⟨c, hc, hy⟩ := List.mem_flatten.1 hy
  exact (hcs c hc).2.1 y hy
theorem Z84 : ∀ (cs : List (List UInt8)) (q : List UInt8), (∀ c ∈ cs, Ch c) → Lib.NoOcc (cs.flatten ++ q) bar cs.flatten.length
  | [], q, _ => fun j hj => absurd hj (Nat.not_lt_zero _)
  | c :: cs, q, h => by
    intro j hj
    obtain ⟨c1, c2, c3, c4⟩ := h c (List.mem_cons_self ..)
    rw [List.flatten_cons, List.length_append] at hj
    rw [List.flatten_cons, List.append_assoc]
    rcases Nat.lt_or_ge j c.length with hjc | hjc
    · rcases Nat.eq_zero_or_pos j with rfl | hj0
      · exact c4 _
      · cases ho : Lib.occAt (c ++ (cs.flatten ++ q)) bar j with
        | false => rfl
        | true =>
          exfalso
          have hh := Lib.occAt_head (c := 226) (t := [148, 130]) rfl ho
          rw [List.getElem?_append_left hjc] at hh
          cases c with
          | nil => exact c1 rfl
          | cons a t =>
            obtain ⟨j', rfl⟩ : ∃ j', j = j' + 1 := ⟨j - 1, by omega⟩
            rw [List.getElem?_cons_succ] at hh
            exact c3 226 (List.mem_of_getElem? hh) rfl
    · have ih := Z84 cs q (fun c hc => h c (List.mem_cons_of_mem _ hc)) (j - c.length) (by omega)
      unfold Lib.occAt at ih ⊢
      rwa [List.drop_append, List.drop_eq_nil_of_le hjc, List.nil_append]
theorem Wh.noc {p : List UInt8} (h : Wh p) (q : List UInt8) : Lib.NoOcc (p ++ q) bar p.length := by
  obtain ⟨cs, rfl, hcs⟩ := h
  exact Z84 cs q hcs
theorem Wh.none {p : List UInt8} (h : Wh p) : Lib.index p bar = -1 := by
  have := h.noc []
  rw [List.append_nil] at this
  exact Lib.index_past (by decide) this (by show p.length < p.length + 3; omega)
theorem Wh.hit {p : List UInt8} (h : Wh p) (q : List UInt8) : Lib.index (p ++ (bar ++ q)) bar = p.length := by
  refine Lib.index_hit (h.noc _) (by rw [List.length_append]; omega) ?_
  unfold Lib.occAt
  rw [List.drop_append, List.drop_eq_nil_of_le (Nat.le_refl _), Nat.sub_self, List.nil_append, List.drop_zero]
  exact List.isPrefixOf_iff_prefix.2 (List.prefix_append _ _)
theorem Z7i (p p2 : List UInt8) (ps : List (List UInt8)) : Lib.join (p :: p2 :: ps) bar = p ++ (bar ++ Lib.join (p2 :: ps) bar) := by
  rw [Lib.join_cons, Lib.join_cons]
  unfold Lib.joinTail
  rw [List.map_cons, List.flatten_cons, List.append_assoc]
theorem Z4g : ∀ (ps : List (List UInt8)) (p : List UInt8) (f : Nat), (∀ x ∈ p :: ps, Wh x) → ps.length < f → Lib.countFrom bar f (Lib.join (p :: ps) bar) = ps.length ∧ Lib.splitK bar 0 ps.length (Lib.join (p :: ps) bar) = p :: ps
  | [], p, 0, _, hf => by simp at hf
  | [], p, f + 1, h, _ => by
    rw [Lib.join_one]
    unfold Lib.countFrom
    rw [(h p (List.mem_cons_self ..)).none]
    exact ⟨rfl, rfl⟩
  | p2 :: ps, p, 0, _, hf => by simp at hf
  | p2 :: ps, p, f + 1, h, hf => by
    obtain ⟨i1, i2⟩ := Z4g ps p2 f (fun x hx => h x (List.mem_cons_of_mem _ hx)) (by simp only [List.length_cons] at hf; omega)
    have hi := (h p (List.mem_cons_self ..)).hit (Lib.join (p2 :: ps) bar)
    rw [Z7i]
    have hne : ((p.length : Int) == -1) = false := by rw [beq_eq_false_iff_ne]; omega
    have hdr : (p ++ (bar ++ Lib.join (p2 :: ps) bar)).drop (p.length + bar.length) = Lib.join (p2 :: ps) bar := by
      rw [← List.append_assoc, List.drop_append, List.drop_eq_nil_of_le (by rw [List.length_append]; omega), List.length_append, Nat.sub_self]
      rfl
    refine ⟨?_, ?_⟩
    · unfold Lib.countFrom
      rw [hi, hne, Int.toNat_natCast, hdr, i1]
      simp only [Bool.false_eq_true, if_false, List.length_cons]
      omega
    · rw [List.length_cons]
      unfold Lib.splitK
      rw [hi, hne, Int.toNat_natCast, hdr, i2, Nat.add_zero, List.take_append_of_le_length (Nat.le_refl _), List.take_of_length_le (Nat.le_refl _)]
      rfl
theorem Z77 {p : List UInt8} {ps : List (List UInt8)} (h : ∀ x ∈ p :: ps, Wh x) : splL (Lib.join (p :: ps) bar) = p :: ps := by
  have hl : ps.length < (Lib.join (p :: ps) bar).length + 1 := by
    rw [Lib.join_length, show bar.length = 3 from rfl]
    omega
  obtain ⟨h1, h2⟩ := Z4g ps p _ h hl
  unfold splL Lib.count
  rw [h1, h2]
/-! Trimming. -/
theorem Z4a : ∀ k : Nat, Lib.trimRightB (List.replicate k 32) 32 = []
  | 0 => rfl
  | k + 1 => by
    have e := trim_go (u := List.replicate (k + 1) 32) (by simp) (by simp [List.getD])
    rw [e, List.length_replicate, Nat.add_sub_cancel, List.take_replicate, Nat.min_eq_left (Nat.le_succ k)]
    exact Z4a k
theorem Z2z {q x : List UInt8} (h : q = [] ∨ q.getLast? ≠ some 32) : Lib.trimRightB (q ++ x) 32 = q ++ Lib.trimRightB x 32 := by
  rcases List.eq_nil_or_concat q with rfl | ⟨r, y, rfl⟩
  · rfl
  · rw [List.concat_eq_append] at h ⊢
    have hy : y ≠ 32 := by
      rcases h with h | h
      · simp at h
      · rw [List.getLast?_concat] at h
        exact fun e => h (by rw [e])
    unfold Lib.trimRightB
    rw [List.reverse_append, List.dropWhile_append, List.reverse_append]
    have hn : List.dropWhile (fun x => x == (32 : UInt8)) ([y].reverse ++ r.reverse) = [y].reverse ++ r.reverse := by
      show List.dropWhile _ (y :: r.reverse) = y :: r.reverse
      rw [List.dropWhile_cons, if_neg (by simp [hy])]
    split
    · rename_i he
      rw [List.isEmpty_iff] at he
      rw [he, hn, List.reverse_append, List.reverse_reverse, List.reverse_reverse, List.reverse_nil, List.append_nil]
    · rw [List.reverse_append, List.reverse_append, List.reverse_reverse, List.reverse_reverse]
theorem Z4b {m : Nat} {s : List UInt8} (h : goodB s = true) : Lib.trimRightB (padL m s) 32 = s := by
  unfold padL
  rw [Z2z (.inr (Z1x h).2), Z4a, List.append_nil]
theorem Z5n {s : List UInt8} (h : goodB s = true) : Lib.trimRightB s 32 = s := by
  have := Z2z (q := s) (x := []) (.inr (Z1x h).2)
  rw [List.append_nil] at this
  rw [this]
  show s ++ [] = s
  rw [List.append_nil]
theorem Z3l (W : Nat → Nat) : ∀ (T : List (List UInt8)) (i : Nat), (∀ s ∈ T, goodB s = true) → (padsL W i T).map (fun c => Lib.trimRightB c 32) = T
  | [], _, _ => rfl
  | s :: T, i, h => by
    show Lib.trimRightB (padL (W i) s) 32 :: (padsL W (i + 1) T).map _ = _
    rw [Z4b (h s (List.mem_cons_self ..)), Z3l W T (i + 1) (fun s hs => h s (List.mem_cons_of_mem _ hs))]
theorem Z62 (W : Nat → Nat) : ∀ (T : List (List UInt8)) (i : Nat), (∀ s ∈ T, goodB s = true) → ∀ x ∈ padsL W i T, Wh x
  | [], _, _, x, hx => by cases hx
  | s :: T, i, h, x, hx => by
    rcases List.mem_cons.1 (show x ∈ padL (W i) s :: padsL W (i + 1) T from hx) with rfl | hx
    · exact (Z5g (h s (List.mem_cons_self ..))).sp _
    · exact Z62 W T (i + 1) (fun s hs => h s (List.mem_cons_of_mem _ hs)) x hx
theorem Z5m (ps : List (List UInt8)) (x : List UInt8) : Lib.trimRightB (Lib.join (ps ++ [x]) bar) 32 = Lib.join (ps ++ [Lib.trimRightB x 32]) bar := by
  rw [Z3p, Z3p]
  refine Z2z ?_
  by_cases h : ps.length = 0
  · rw [if_pos h, List.eq_nil_of_length_eq_zero h]
    exact .inl rfl
  · rw [if_neg h, List.getLast?_append, show bar.getLast? = some 130 from rfl]
    exact .inr (by simp)
/-- A line: its body. -/
theorem Z3n (W : Nat → Nat) {T : List (List UInt8)} (hT : T ≠ []) (hg : ∀ s ∈ T, goodB s = true) : ∃ ps : List (List UInt8), ps ≠ [] ∧ lineL W T = Lib.join ps bar ++ [10] ∧ (∀ x ∈ ps, Wh x) ∧ ps.map (fun c => Lib.trimRightB c 32) = T := by
  rcases List.eq_nil_or_concat T with rfl | ⟨T', t, rfl⟩
  · exact absurd rfl hT
  · rw [List.concat_eq_append] at hg ⊢
    have hg1 : ∀ s ∈ T', goodB s = true := fun s hs => hg s (List.mem_append_left _ hs)
    have hg2 : goodB t = true := hg t (by simp)
    refine ⟨padsL W 0 T' ++ [t], by simp, ?_, fun x hx => ?_, ?_⟩
    · unfold lineL
      rw [Z1v, Z5m, Z4b hg2]
    · rcases List.mem_append.1 hx with hx | hx
      · exact Z62 W T' 0 hg1 x hx
      · rw [List.mem_singleton.1 hx]
        exact Z5g hg2
    · rw [List.map_append, Z3l W T' 0 hg1, List.map_cons, List.map_nil, Z5n hg2]
theorem Z7j {ps : List (List UInt8)} (h : ∀ x ∈ ps, ∀ y ∈ x, y ≠ 10) : ∀ y ∈ Lib.join ps bar, y ≠ 10 := by
  cases ps with
  | nil => intro y hy; cases hy
  | cons p r =>
    rw [Lib.join_cons]
    intro y hy
    rcases List.mem_append.1 hy with hy | hy
    · exact h p (List.mem_cons_self ..) y hy
    · unfold Lib.joinTail at hy
      obtain ⟨c, hc, hy⟩ := List.mem_flatten.1 hy
      obtain ⟨x, hx, rfl⟩ := List.mem_map.1 hc
      rcases List.mem_append.1 hy with hy | hy
      · intro e
        rw [e] at hy
        exact absurd hy (by decide)
      · exact h x (List.mem_cons_of_mem _ hx) y hy
theorem suf_ten (a : List UInt8) : Lib.trimSuffix (a ++ [10]) [10] = a := by
  unfold Lib.trimSuffix Lib.hasSuffix
  rw [if_pos (List.isSuffixOf_iff_suffix.2 (List.suffix_append _ _)), List.length_append]
  simp
theorem Z58 (W : Nat → Nat) {T : List (List UInt8)} (hT : T ≠ []) (hg : ∀ s ∈ T, goodB s = true) : cellsL (lineL W T) = T := by
  obtain ⟨ps, h1, h2, h3, h4⟩ := Z3n W hT hg
  unfold cellsL
  rw [h2, suf_ten]
  cases ps with
  | nil => exact absurd rfl h1
  | cons p r => rw [Z77 h3]; exact h4
theorem Z3q : ∀ (a r : List UInt8), (∀ y ∈ a, y ≠ 10) → Lib.indexByte (a ++ ([10] ++ r)) 10 = a.length
  | [], r, _ => rfl
  | b :: a, r, h => by
    show (if b == 10 then (0 : Int) else if Lib.indexByte (a ++ ([10] ++ r)) 10 == -1 then -1 else Lib.indexByte (a ++ ([10] ++ r)) 10 + 1) = _
    rw [Z3q a r (fun y hy => h y (List.mem_cons_of_mem _ hy)), if_neg (by rw [beq_iff_eq]; exact h b (List.mem_cons_self ..)), if_neg (by rw [beq_iff_eq]; omega), List.length_cons]
    omega
theorem Z2q : ∀ L : List (List UInt8), (∀ a ∈ L, ∃ c, a = c ++ [10] ∧ ∀ y ∈ c, y ≠ 10) → linesL L.flatten = L
  | [], _ => rfl
  | a :: L, h => by
    obtain ⟨c, rfl, hc⟩ := h a (List.mem_cons_self ..)
    have hi := Z3q c L.flatten hc
    rw [List.flatten_cons, List.append_assoc]
    rw [(Z1i hi).1, ← List.append_assoc]
    have hl : (c ++ [10]).length = c.length + 1 := by simp
    rw [← hl, List.take_append_of_le_length (Nat.le_refl _), List.take_of_length_le (Nat.le_refl _), List.drop_append, List.drop_eq_nil_of_le (Nat.le_refl _), Nat.sub_self, List.nil_append, List.drop_zero, Z2q L (fun a ha => h a (List.mem_cons_of_mem _ ha))]
theorem Z5p {X : List (List (List UInt8))} (h : tableB X = true) : X.length ≤ 1000 ∧ ∀ T ∈ X, T.length = (X.headD []).length ∧ T.length ≤ 100 ∧ ∀ s ∈ T, goodB s = true := by
  unfold tableB at h
  rw [Bool.and_eq_true, decide_eq_true_eq, List.all_eq_true] at h
  refine ⟨h.1, fun T hT => ?_⟩
  have h2 := h.2 T hT
  rw [Bool.and_eq_true, Bool.and_eq_true, decide_eq_true_eq, decide_eq_true_eq, List.all_eq_true] at h2
  exact ⟨h2.1.1, h2.1.2, h2.2⟩
/-- WHAT WAS TOLD IS READ AS IT WAS. -/
theorem Z1p {X : List (List (List UInt8))} (h : tableB X = true) (hn : 0 < (X.headD []).length) : partL (textL X) = X := by
  have ht := Z5p h
  have hne : ∀ T ∈ X, T ≠ [] := fun T hT e => by have := (ht.2 T hT).1; rw [e] at this; simp only [List.length_nil] at this; omega
  unfold partL textL
  rw [Z2q _ (fun a ha => by
    obtain ⟨T, hT, rfl⟩ := List.mem_map.1 ha
    obtain ⟨ps, h1, h2, h3, _⟩ := Z3n (colW X) (hne T hT) (ht.2 T hT).2.2
    exact ⟨_, h2, Z7j (fun x hx => (h3 x hx).no10)⟩), List.map_map]
  exact (List.map_congr_left (fun T hT => Z58 (colW X) (hne T hT) (ht.2 T hT).2.2)).trans (List.map_id X)
theorem Z74 {X Y : List (List (List UInt8))} (hX : tableB X = true) (hY : tableB Y = true) (h1 : 0 < (X.headD []).length) (h2 : 0 < (Y.headD []).length) : X = Y ↔ textL X = textL Y :=
  ⟨fun h => by rw [h], fun h => by rw [← Z1p hX h1, ← Z1p hY h2, h]⟩
theorem Z7f {X : List (List (List UInt8))} (h : tableB X = true) (hn : 0 < (X.headD []).length) (xs : List Int) : okC (textL X) xs = true ↔ (∀ T ∈ X, T.length = xs.length) ∧ wdsL X xs.length = xs := by
  unfold okC
  rw [Z1p h hn, h]
  simp only [Bool.and_eq_true, List.all_eq_true, decide_eq_true_eq, and_true]
end Go.Proofs.YtgdlnfljfiageaaDoor
