/- What fits, plain. -/
import Derived.Test.YtgdlnfljfiageaaDoorKGridExact10
import Derived.Test.YtgdlnfljfiageaaDoorKGridExact04
import Derived.Test.YtgdlnfljfiageaaDoorKGridExact07
namespace Go.Proofs.YtgdlnfljfiageaaDoor
set_option linter.unusedVariables false
set_option linter.unusedSimpArgs false
/-- Bytes of a text that is cut and filled. -/
theorem cut_get {l : List UInt8} {c j i : Nat} : (i < c ∧ i < l.length → (l.take c ++ List.replicate j (32 : UInt8)).getD i 0 = l.getD i 0) ∧ (¬ (i < c ∧ i < l.length) → ((l.take c ++ List.replicate j (32 : UInt8)).getD i 0).toNat < 128) := by
  constructor
  · rintro ⟨h1, h2⟩
    simp only [List.getD]
    rw [List.getElem?_append_left (by rw [List.length_take]; omega), List.getElem?_take, if_pos h1]
  · intro h
    simp only [List.getD]
    rw [List.getElem?_append_right (by rw [List.length_take]; omega), List.getElem?_replicate]
    split
    · decide
    · decide
set_option maxRecDepth 100000 in
set_option maxHeartbeats 16000000 in
theorem Z6l {n n' c b0 b1 b2 b3 d0 d1 d2 d3 : Nat} (hn : 1 ≤ n) (h0 : d0 = b0) (h1 : (1 < c ∧ 1 < n → d1 = b1) ∧ (¬ (1 < c ∧ 1 < n) → d1 < 128)) (h2 : (2 < c ∧ 2 < n → d2 = b2) ∧ (¬ (2 < c ∧ 2 < n) → d2 < 128)) (h3 : (3 < c ∧ 3 < n → d3 = b3) ∧ (¬ (3 < c ∧ 3 < n) → d3 < 128))
    (hlen : ∀ i, i < c → i < n → i < n') (hc : (Lib.decodeN n b0 b1 b2 b3).2 ≤ c) : Lib.decodeN n' d0 d1 d2 d3 = Lib.decodeN n b0 b1 b2 b3 := by
  subst h0
  have l1 := hlen 1
  have l2 := hlen 2
  have l3 := hlen 3
  clear hlen
  unfold Lib.decodeN at hc ⊢
  by_cases a1 : d0 < 128
  · simp only [if_pos a1]
  · simp only [if_neg a1] at hc ⊢
    by_cases a2 : d0 / 32 = 6
    · have a3 : ¬ d0 / 16 = 14 := by omega
      have a4 : ¬ d0 / 8 = 30 := by omega
      simp only [a2, a3, a4, true_and, false_and, if_false] at hc ⊢
      by_cases x1 : 1 < n ∧ b1 / 64 = 2
      · simp only [if_pos x1] at hc ⊢
        by_cases y1 : d0 % 32 * 64 + b1 % 64 ≥ 128
        · simp only [if_pos y1] at hc ⊢
          have e1 : d1 = b1 := h1.1 ⟨by omega, x1.1⟩
          have := l1 (by omega) x1.1
          rw [e1, if_pos ⟨this, x1.2⟩, if_pos y1]
        · simp only [if_neg y1] at hc ⊢
          by_cases z : 1 < n' ∧ d1 / 64 = 2
          · rw [if_pos z]
            have e1 : d1 = b1 := by
              by_cases q : 1 < c ∧ 1 < n
              · exact h1.1 q
              · have := h1.2 q; omega
            rw [e1, if_neg y1]
          · rw [if_neg z]
      · simp only [if_neg x1] at hc ⊢
        rw [if_neg]
        rintro ⟨z1, z2⟩
        by_cases q : 1 < c ∧ 1 < n
        · exact x1 ⟨q.2, by rw [← h1.1 q]; exact z2⟩
        · have := h1.2 q; omega
    · by_cases a3 : d0 / 16 = 14
      · have a4 : ¬ d0 / 8 = 30 := by omega
        simp only [a2, a3, a4, true_and, false_and, if_false] at hc ⊢
        by_cases x1 : (1 < n ∧ b1 / 64 = 2) ∧ (2 < n ∧ b2 / 64 = 2)
        · simp only [if_pos x1] at hc ⊢
          by_cases y1 : d0 % 16 * 4096 + b1 % 64 * 64 + b2 % 64 ≥ 2048 ∧ (d0 % 16 * 4096 + b1 % 64 * 64 + b2 % 64 < 55296 ∨ (57344 ≤ d0 % 16 * 4096 + b1 % 64 * 64 + b2 % 64 ∧ d0 % 16 * 4096 + b1 % 64 * 64 + b2 % 64 ≤ 1114111))
          · simp only [if_pos y1] at hc ⊢
            have e1 : d1 = b1 := h1.1 ⟨by omega, x1.1.1⟩
            have e2 : d2 = b2 := h2.1 ⟨by omega, x1.2.1⟩
            have k1 := l1 (by omega) x1.1.1
            have k2 := l2 (by omega) x1.2.1
            rw [e1, e2, if_pos ⟨⟨k1, x1.1.2⟩, ⟨k2, x1.2.2⟩⟩, if_pos y1]
          · simp only [if_neg y1] at hc ⊢
            by_cases z : (1 < n' ∧ d1 / 64 = 2) ∧ (2 < n' ∧ d2 / 64 = 2)
            · rw [if_pos z]
              have e1 : d1 = b1 := by
                by_cases q : 1 < c ∧ 1 < n
                · exact h1.1 q
                · have := h1.2 q; omega
              have e2 : d2 = b2 := by
                by_cases q : 2 < c ∧ 2 < n
                · exact h2.1 q
                · have := h2.2 q; omega
              rw [e1, e2, if_neg y1]
            · rw [if_neg z]
        · simp only [if_neg x1] at hc ⊢
          rw [if_neg]
          rintro ⟨⟨z1, z2⟩, z3, z4⟩
          by_cases q : 1 < c ∧ 1 < n
          · by_cases q2 : 2 < c ∧ 2 < n
            · exact x1 ⟨⟨q.2, by rw [← h1.1 q]; exact z2⟩, q2.2, by rw [← h2.1 q2]; exact z4⟩
            · have := h2.2 q2; omega
          · have := h1.2 q; omega
      · by_cases a4 : d0 / 8 = 30
        · simp only [a2, a3, a4, true_and, false_and, if_false] at hc ⊢
          by_cases x1 : (1 < n ∧ b1 / 64 = 2) ∧ (2 < n ∧ b2 / 64 = 2) ∧ (3 < n ∧ b3 / 64 = 2)
          · simp only [if_pos x1] at hc ⊢
            by_cases y1 : d0 % 8 * 262144 + b1 % 64 * 4096 + b2 % 64 * 64 + b3 % 64 ≥ 65536 ∧ (d0 % 8 * 262144 + b1 % 64 * 4096 + b2 % 64 * 64 + b3 % 64 < 55296 ∨ (57344 ≤ d0 % 8 * 262144 + b1 % 64 * 4096 + b2 % 64 * 64 + b3 % 64 ∧ d0 % 8 * 262144 + b1 % 64 * 4096 + b2 % 64 * 64 + b3 % 64 ≤ 1114111))
            · simp only [if_pos y1] at hc ⊢
              have e1 : d1 = b1 := h1.1 ⟨by omega, x1.1.1⟩
              have e2 : d2 = b2 := h2.1 ⟨by omega, x1.2.1.1⟩
              have e3 : d3 = b3 := h3.1 ⟨by omega, x1.2.2.1⟩
              have k1 := l1 (by omega) x1.1.1
              have k2 := l2 (by omega) x1.2.1.1
              have k3 := l3 (by omega) x1.2.2.1
              rw [e1, e2, e3, if_pos ⟨⟨k1, x1.1.2⟩, ⟨k2, x1.2.1.2⟩, ⟨k3, x1.2.2.2⟩⟩, if_pos y1]
            · simp only [if_neg y1] at hc ⊢
              by_cases z : (1 < n' ∧ d1 / 64 = 2) ∧ (2 < n' ∧ d2 / 64 = 2) ∧ (3 < n' ∧ d3 / 64 = 2)
              · rw [if_pos z]
                have e1 : d1 = b1 := by
                  by_cases q : 1 < c ∧ 1 < n
                  · exact h1.1 q
                  · have := h1.2 q; omega
                have e2 : d2 = b2 := by
                  by_cases q : 2 < c ∧ 2 < n
                  · exact h2.1 q
                  · have := h2.2 q; omega
                have e3 : d3 = b3 := by
                  by_cases q : 3 < c ∧ 3 < n
                  · exact h3.1 q
                  · have := h3.2 q; omega
                rw [e1, e2, e3, if_neg y1]
              · rw [if_neg z]
          · simp only [if_neg x1] at hc ⊢
            rw [if_neg]
            rintro ⟨⟨z1, z2⟩, ⟨z3, z4⟩, z5, z6⟩
            by_cases q : 1 < c ∧ 1 < n
            · by_cases q2 : 2 < c ∧ 2 < n
              · by_cases q3 : 3 < c ∧ 3 < n
                · exact x1 ⟨⟨q.2, by rw [← h1.1 q]; exact z2⟩, ⟨q2.2, by rw [← h2.1 q2]; exact z4⟩, q3.2, by rw [← h3.1 q3]; exact z6⟩
                · have := h3.2 q3; omega
              · have := h2.2 q2; omega
            · have := h1.2 q; omega
        · simp only [a2, a3, a4, false_and, if_false] at hc ⊢
/-- A rune stays, whatever is cut behind it. -/
theorem Z7n {l : List UInt8} {c j : Nat} (hne : l ≠ []) (hc : (dec l).2 ≤ c) : dec (l.take c ++ List.replicate j 32) = dec l := by
  have hl := List.length_pos_iff.2 hne
  have hd := Z1d hne
  have hc1 : 0 < c := by omega
  have g : ∀ i, _ := fun i => @cut_get l c j i
  have t : ∀ i, (i < c ∧ i < l.length → ((l.take c ++ List.replicate j (32 : UInt8)).getD i 0).toNat = (l.getD i 0).toNat) ∧ (¬ (i < c ∧ i < l.length) → ((l.take c ++ List.replicate j (32 : UInt8)).getD i 0).toNat < 128) := fun i => ⟨fun h => by rw [(g i).1 h], (g i).2⟩
  unfold dec at hc ⊢
  refine Z6l (c := c) hl ((t 0).1 ⟨hc1, hl⟩) (t 1) (t 2) (t 3) (fun i h1 h2 => by rw [List.length_append, List.length_take]; omega) hc
theorem dec_sp (l : List UInt8) : dec (32 :: l) = (32, 1) := Z45 (l := 32 :: l) (by show (32 : UInt8).toNat < 128; decide)
theorem Z3g : ∀ j : Nat, widthL (List.replicate j 32) = j
  | 0 => rfl
  | j + 1 => by
    rw [List.replicate_succ, Z1e (by simp), dec_sp]
    show wideN 32 + widthL ((32 :: List.replicate j 32).drop 1) = _
    rw [List.drop_one, List.tail_cons, Z3g j]
    have : wideN 32 = 1 := by decide
    omega
/-- A cut: how wide, where. -/
theorem Z6m (W j : Nat) : ∀ (N : Nat) (l : List UInt8) (n : Nat), l.length ≤ N → n ≤ W →
    widthL (l.take (cutR W (runesL l) n).1 ++ List.replicate j 32) + n = (cutR W (runesL l) n).2 + j ∧ (cutR W (runesL l) n).1 ≤ l.length ∧ (cutR W (runesL l) n).2 ≤ W ∧
      (((cutR W (runesL l) n).1 = l.length ∧ (cutR W (runesL l) n).2 = n + widthL l) ∨ ((cutR W (runesL l) n).1 < l.length ∧ W ≤ (cutR W (runesL l) n).2 + 1 ∧ W < n + widthL l))
  | N, [], n, _, hn => by
    have e : cutR W (runesL []) n = (0, n) := rfl
    rw [e]
    refine ⟨?_, Nat.le_refl _, hn, .inl ⟨rfl, rfl⟩⟩
    show widthL ([] ++ List.replicate j 32) + n = n + j
    rw [List.nil_append, Z3g]
    omega
  | 0, x :: r, _, h, _ => by simp at h
  | N + 1, x :: r, n, h, hn => by
    have hne : x :: r ≠ [] := by simp
    obtain ⟨ru, d, hd⟩ : ∃ ru d, dec (x :: r) = (ru, d) := ⟨_, _, rfl⟩
    have hp := Z1d hne
    rw [hd] at hp
    simp only at hp
    have hw := Z1t ru
    have hwc := Z1e hne
    rw [hd] at hwc
    simp only at hwc
    rw [Z17 hne, hd]
    by_cases hb : W < n + wideN ru
    · have e : cutR W ((ru, d) :: runesL ((x :: r).drop d)) n = (0, n) := if_pos hb
      rw [e]
      refine ⟨?_, Nat.zero_le _, hn, .inr ⟨by simp, by show W ≤ n + 1; omega, by omega⟩⟩
      show widthL ((x :: r).take 0 ++ List.replicate j 32) + n = n + j
      rw [List.take_zero, List.nil_append, Z3g]
      omega
    · obtain ⟨h1, h2, h3, h4⟩ := Z6m W j N ((x :: r).drop d) (n + wideN ru) (by rw [List.length_drop]; omega) (by omega)
      have e : cutR W ((ru, d) :: runesL ((x :: r).drop d)) n = ((cutR W (runesL ((x :: r).drop d)) (n + wideN ru)).1 + d, (cutR W (runesL ((x :: r).drop d)) (n + wideN ru)).2) := if_neg hb
      rw [e]
      obtain ⟨c, m, hcm⟩ : ∃ c m, cutR W (runesL ((x :: r).drop d)) (n + wideN ru) = (c, m) := ⟨_, _, rfl⟩
      rw [hcm] at h1 h2 h3 h4 ⊢
      simp only at h1 h2 h3 h4 ⊢
      have hdl : ((x :: r).drop d).length = (x :: r).length - d := List.length_drop
      rw [hdl] at h2 h4
      have hne2 : (x :: r).take (c + d) ++ List.replicate j 32 ≠ [] := by
        intro e
        have := congrArg List.length e
        rw [List.length_append, List.length_take] at this
        simp only [List.length_nil, List.length_cons] at this hp
        omega
      have hk := Z7n (c := c + d) (j := j) hne (by rw [hd]; show d ≤ c + d; omega)
      refine ⟨?_, by omega, h3, ?_⟩
      · rw [Z1e hne2, hk, hd]
        show wideN ru + widthL (((x :: r).take (c + d) ++ List.replicate j 32).drop d) + n = m + j
        have e2 : ((x :: r).take (c + d) ++ List.replicate j 32).drop d = ((x :: r).drop d).take c ++ List.replicate j 32 := by
          rw [List.drop_append_of_le_length (by rw [List.length_take]; omega), List.drop_take, Nat.add_sub_cancel]
        rw [e2]
        omega
      · rcases h4 with ⟨h4, h5⟩ | ⟨h4, h5, h6⟩
        · exact .inl ⟨by omega, by omega⟩
        · exact .inr ⟨by omega, h5, by omega⟩
end Go.Proofs.YtgdlnfljfiageaaDoor

/- Numbers turned: int to uint and back, the rest of a uint. -/
namespace Go.Proofs.YtgdlnfljfiageaaDoor
set_option linter.unusedVariables false
set_option linter.unusedSimpArgs false
open Go.RowKit Go.Maps
section
variable {w : World} {o : Oper} {ρ : Operand → Value} {t u : TypeId} {x y : Operand}
end
end Go.Proofs.YtgdlnfljfiageaaDoor
