/- The store's pages counted; rows of new pages (plain). -/
import Derived.Test.YtakkhglbdljfiaaGreatDoorKStoreShadows40
namespace Go.Proofs.YtakkhglbdljfiaaGreatDoor
set_option linter.unusedVariables false
set_option linter.unusedSimpArgs false
open Go.RowKit Go.Maps

theorem riseN_succ (P : Nat) (p : Int → Bool) : riseN (P + 1) p = riseN P p ++ (if p (P : Nat) then [((P : Nat) : Int)] else []) := by
  unfold riseN
  rw [List.range_succ, List.map_append, List.filter_append]
  congr 1
  show ([((P : Nat) : Int)]).filter p = _
  rw [List.filter_cons]
  rfl
theorem Z1h (P : Nat) (p : Int → Bool) : (riseN (P + 1) p).length = (riseN P p).length + (if p (P : Nat) then 1 else 0) := by
  rw [riseN_succ, List.length_append]
  split <;> rfl
/-- The free pages. -/
def freeL (P : Nat) (K : Int → Bool) (F : Int → Option Nd) : List Int := riseN P fun c => decide (1 ≤ c) && freeB K F c
section
variable {P : Nat} {K : Int → Bool} {F : Int → Option Nd} {ps : List Int} {g : Nat → Int} {c : Int}
theorem count3 (hK : K 0 = false) (hF : F 0 = none) (hd : ∀ c, K c = true → F c = none) : ∀ P : Nat, (kL (P + 1) K).length + (fL (P + 1) F).length + (freeL (P + 1) K F).length = P
  | 0 => by
    unfold kL fL freeL
    rw [Z1h, Z1h, Z1h]
    simp [riseN, hK, hF]
  | P + 1 => by
    have ih := count3 hK hF hd P
    unfold kL fL freeL at *
    rw [Z1h, Z1h (P + 1), Z1h (P + 1)]
    have h1 : decide ((1 : Int) ≤ ((P + 1 : Nat) : Int)) = true := decide_eq_true (by omega)
    have hdc := hd ((P + 1 : Nat) : Int)
    unfold freeB at *
    cases hk : K ((P + 1 : Nat) : Int) with
    | true =>
      rw [hdc hk]
      simp only [h1, Option.isSome_none, Bool.not_true, Bool.and_false, if_true]
      simp only [Bool.false_eq_true, if_false]
      omega
    | false =>
      cases hf : F ((P + 1 : Nat) : Int) with
      | none =>
        simp only [h1, Option.isSome_none, Bool.not_false, Bool.and_true, if_true]
        simp only [Bool.false_eq_true, if_false]
        omega
      | some nd =>
        simp only [h1, Option.isSome_some, Bool.not_true, Bool.not_false, Bool.and_true, Bool.and_false, if_true]
        simp only [Bool.false_eq_true, if_false]
        omega
/-- Committed pages are not new. -/
structure Apart7 (K : Int → Bool) (F : Int → Option Nd) : Prop where
  k0 : K 0 = false
  f0 : F 0 = none
  no : ∀ c, K c = true → F c = none
theorem StOk.apart {vs : List Value} {N : List Nd} {m : Int → Option Value} (s : StOk P K F vs N m) (h : ∀ c, K c = true → F c = none) : Apart7 K F := by
  refine ⟨?_, ?_, h⟩
  · cases h0 : K 0 with
    | false => rfl
    | true => exact absurd (s.kr 0 h0).1 (by decide)
  · cases h0 : F 0 with
    | none => rfl
    | some nd => exact absurd (s.fr 0 nd h0).1 (by decide)
theorem Apart7.count (h : Apart7 K F) (hP : 1 ≤ P) : (kL P K).length + (fL P F).length + (freeL P K F).length = P - 1 := by
  obtain ⟨q, rfl⟩ : ∃ q, P = q + 1 := ⟨P - 1, by omega⟩
  exact count3 h.k0 h.f0 h.no q
theorem freeL_none (h : NoFree P K F) : freeL P K F = [] := by
  unfold freeL riseN
  rw [List.filter_eq_nil_iff]
  intro a ha hb
  obtain ⟨i, hi, rfl⟩ := List.mem_map.1 ha
  rw [Bool.and_eq_true, decide_eq_true_iff] at hb
  have := h i (by omega) (List.mem_range.1 hi)
  rw [hb.2] at this
  cases this
theorem Apart7.full (h : Apart7 K F) (hP : 1 ≤ P) (hn : NoFree P K F) : (kL P K).length + (fL P F).length = P - 1 := by
  have := h.count hP
  rw [freeL_none hn, List.length_nil, Nat.add_zero] at this
  exact this
theorem fL_put (hF : F c = none) (h1 : 0 ≤ c) (nd : Nd) : ∀ P : Nat, (fL P (putF F c nd)).length = (fL P F).length + (if c < (P : Nat) then 1 else 0)
  | 0 => by rw [if_neg (by omega)]; rfl
  | P + 1 => by
    have ih := fL_put hF h1 nd P
    unfold fL at *
    rw [Z1h, Z1h, ih]
    have e : putF F c nd ((P : Nat) : Int) = if ((P : Nat) : Int) = c then some nd else F ((P : Nat) : Int) := rfl
    by_cases hc : ((P : Nat) : Int) = c
    · rw [e, if_pos hc, if_neg (show ¬ c < ((P : Nat) : Int) by omega), if_pos (show c < ((P + 1 : Nat) : Int) by omega), hc, hF]
      simp
    · rw [e, if_neg hc]
      by_cases hl : c < ((P : Nat) : Int)
      · rw [if_pos hl, if_pos (show c < ((P + 1 : Nat) : Int) by omega)]
        omega
      · rw [if_neg hl, if_neg (show ¬ c < ((P + 1 : Nat) : Int) by omega)]
        exact Nat.add_right_comm _ _ _
/-- The new pages are those of a row, with the laws' nodes. -/
structure Adds (P : Nat) (K : Int → Bool) (F : Int → Option Nd) (ps : List Int) (g : Nat → Int) : Prop where
  at_ : ∀ (j : Nat) c, ps[j]? = some c → F c = some (node (g j))
  free : ∀ c ∈ ps, K c = false ∧ 1 ≤ c ∧ c < (P : Nat)
  only : ∀ c, (F c).isSome = true → c ∈ ps
  len : (fL P F).length = ps.length
theorem Adds.nil (P : Nat) (K : Int → Bool) (g : Nat → Int) : Adds P K (fun _ => none) [] g := by
  refine ⟨fun j c h => (by simp at h), fun c h => (by cases h), fun c h => (by cases h), ?_⟩
  have : fL P (fun _ => none) = [] := by
    unfold fL riseN
    rw [List.filter_eq_nil_iff]
    simp
  rw [this]
theorem Z64 (h : freeB K F c = true) : F c = none ∧ K c = false := by
  unfold freeB at h
  rw [Bool.and_eq_true, Bool.not_eq_true', Bool.not_eq_true', Option.isSome_eq_false_iff, Option.isNone_iff_eq_none] at h
  exact h
theorem Adds.put {d : Nat} (h : Adds P K F ps g) (hf : FirstFree P K F d) : Adds P K (putF F (d : Nat) (node (g ps.length))) (ps ++ [((d : Nat) : Int)]) g := by
  obtain ⟨h1, h2, h3, _⟩ := hf
  obtain ⟨hF, hK⟩ := Z64 h3
  have hn : ∀ c ∈ ps, c ≠ ((d : Nat) : Int) := fun c hc e => by
    obtain ⟨j, hj⟩ := List.getElem?_of_mem hc
    have := h.at_ j c hj
    rw [e, hF] at this
    cases this
  refine ⟨fun j c hc => ?_, fun c hc => ?_, fun c hc => ?_, ?_⟩
  · by_cases hj : j < ps.length
    · rw [List.getElem?_append_left hj] at hc
      unfold putF
      rw [if_neg (hn c (List.mem_of_getElem? hc))]
      exact h.at_ j c hc
    · rw [List.getElem?_append_right (by omega)] at hc
      have e : j - ps.length = 0 := by have := (List.getElem?_eq_some_iff.1 hc).1; simp at this; omega
      rw [e] at hc
      obtain rfl : ((d : Nat) : Int) = c := by simpa using hc
      unfold putF
      rw [if_pos rfl, show j = ps.length by omega]
  · rcases List.mem_append.1 hc with hc | hc
    · exact h.free c hc
    · obtain rfl := List.mem_singleton.1 hc
      exact ⟨hK, by omega, by omega⟩
  · unfold putF at hc
    split at hc
    · rename_i e
      exact List.mem_append.2 (.inr (List.mem_singleton.2 e))
    · exact List.mem_append.2 (.inl (h.only c hc))
  · rw [fL_put hF (by omega), h.len, if_pos (by omega), List.length_append]
    rfl
theorem Adds.apart (h : Adds P K F ps g) : ∀ c, K c = true → F c = none := fun c hc => by
  cases hf : F c with
  | none => rfl
  | some nd =>
    have := (h.free c (h.only c (by rw [hf]; rfl))).1
    rw [hc] at this
    cases this
theorem Adds.lost (h : Adds P K F ps g) : ps.any (lostB P K F) = false := by
  rw [List.any_eq_false]
  intro c hc
  obtain ⟨_, h1, h2⟩ := h.free c hc
  obtain ⟨j, hj⟩ := List.getElem?_of_mem hc
  have hf := h.at_ j c hj
  unfold lostB freeB
  rw [decide_eq_true (show 1 ≤ c ∧ c < (P : Nat) from ⟨h1, h2⟩), hf]
  simp
theorem Adds.kept (h : Adds P K F ps g) : (kL P (inP P ps)).length = ps.length := by
  rw [← h.len]
  unfold kL fL
  congr 1
  refine Z7a fun i hi => ?_
  unfold inP
  cases hf : F ((i : Nat) : Int) with
  | none =>
    refine decide_eq_false fun hh => ?_
    obtain ⟨j, hj⟩ := List.getElem?_of_mem hh.1
    have := h.at_ j _ hj
    rw [hf] at this
    cases this
  | some nd =>
    have hm := h.only ((i : Nat) : Int) (by rw [hf]; rfl)
    exact decide_eq_true ⟨hm, (h.free _ hm).2⟩
theorem Adds.todo (h : Adds P K F ps g) (hc : c ∈ ps) : c ∈ todo P F ps := by
  obtain ⟨j, hj⟩ := List.getElem?_of_mem hc
  obtain ⟨_, h1, h2⟩ := h.free c hc
  exact Z5z.2 ⟨⟨⟨by omega, h2⟩, by rw [h.at_ j c hj]; rfl⟩, hc⟩
/-- What a commit of them leaves. -/
theorem Adds.page {S : List Sec} {o : Nat} {hb : List UInt8} {j : Nat} (h : Adds P K F ps g) (hS : 16 * P ≤ S.length) (ho : o < 16) (hj : ps[j]? = some c) : pgS (cmS S F (Go.Proofs.YtakkhglbdljfiaaGreatDoor.todo P F ps) o hb) c.toNat = pgB (node (g j)) := by
  have hm := List.mem_of_getElem? hj
  obtain ⟨_, h1, h2⟩ := h.free c hm
  have e : ((c.toNat : Nat) : Int) = c := Int.toNat_of_nonneg (by omega)
  exact cm_new (nd := node (g j)) (by omega) ho (by omega) (by rw [e]; exact h.todo hm) (by rw [e]; exact h.at_ j c hj) (Z6p _)
end
/-- A row of numbers of one's own. -/
theorem row1_own {w : World} {T : TypeId} {B : Option Addr} {n c : Nat} {xs : List Int} (h : w.ownsRow 0 T 1 (.slice B n c) n (xs.map (Value.int .i64))) (hn : xs.length = n) : Row1 w B (Value.int .i64) xs := by
  intro i x hx
  have hi := (List.getElem?_eq_some_iff.1 hx).1
  obtain ⟨g, cap', cur, e, hb, _, _, _, h5⟩ := Z2z h (by omega)
  injection e with e1
  subst e1
  refine ⟨g, 0, rfl, hb.lt, ?_⟩
  rw [Nat.zero_add, hb.cell, ← Array.getElem?_toList]
  have h6 := congrArg (fun l => l[i]?) h5
  simp only [Nat.mul_one] at h6
  rw [List.getElem?_take_of_lt (by omega), List.getElem?_map, hx] at h6
  exact h6
theorem row1_at {w : World} {T : TypeId} {B : Option Addr} {n c z : Nat} {xs : List Value} {v : Value} (h : w.ownsRow 0 T 1 (.slice B n c) n xs) (hz : xs[z]? = some v) (hzn : z < n) : ∃ g, B = some ⟨g, 0, none⟩ ∧ w.cell? ⟨g, z, none⟩ = some v := by
  obtain ⟨g, cap', cur, e, hb, _, _, _, h5⟩ := Z2z h (by omega)
  injection e with e1
  subst e1
  refine ⟨g, rfl, ?_⟩
  rw [hb.cell, ← hz, ← h5, Nat.mul_one, List.getElem?_take_of_lt hzn]
  simp
theorem row1_gc {w : World} {T : TypeId} {g n c z : Nat} {xs : List Value} {v : Value} (h : w.ownsRow 0 T 1 (.slice (some ⟨g, 0, none⟩) n c) n xs) (hz : xs[z]? = some v) (hzn : z < n) : w.cell? ⟨g, z, none⟩ = some v := by
  obtain ⟨g', e, hc⟩ := row1_at h hz hzn
  injection e with e
  injection e with e
  subst e
  exact hc
theorem elemI8 : ElemI Tryz.prog 40 3 1 8 := ⟨Tryz.underlying40, by
  have h : (Tryz.prog.info? 3).map (fun i => (i.zero, i.size, i.bytes)) = some (some (.int .i64 0), 1, 8) := by kernel_rfl
  obtain ⟨i, h1, h2, h3, h4⟩ := info_parts h
  exact ⟨i, _, h1, h2, h3, h4, rfl⟩⟩
def intsV (l : List Int) : List Value := l.map (Value.int .i64)
theorem intsV_app (l : List Int) (x : Int) : intsV (l ++ [x]) = intsV l ++ [Value.int .i64 x] := by simp [intsV]
theorem Z62 {l : List Int} {j : Nat} {c : Int} (h : l[j]? = some c) : (intsV l)[j]? = some (.int .i64 c) := by unfold intsV; rw [List.getElem?_map, h]; rfl
theorem kL_no (P : Nat) : kL P (fun _ => false) = [] := by
  unfold kL riseN
  rw [List.filter_eq_nil_iff]
  simp
theorem fL_no (P : Nat) : fL P (fun _ => none) = [] := by
  unfold fL riseN
  rw [List.filter_eq_nil_iff]
  simp
theorem looL_no7 (n : Nat) : looL n noL = [] := by
  unfold looL riseN
  rw [List.filter_eq_nil_iff]
  simp
section
variable {H : Nat} {A0 : World} {R : List Thing} {sb p kb fb mb n cap bm : Nat} {B : Option Addr} {S : List Sec} {L : Int → Option Sec} {h : Hd} {at_ : Int} {K : Int → Bool} {m : Int → Option Value} {F : Int → Option Nd} {vs : List Value} {N : List Nd} {M : Mn}
theorem sadd_free (nn : Int) {g : Nat} (w : World) (O : OwnT H A0 (stL sb p h at_ kb fb K m vs N (tDisc p mb B n cap bm S L :: R)) w) (ok : StOk (pgs n) K F vs N m) (hrow : Row w (some ⟨g, 0, none⟩) 2 pairC (nodeP nn)) (hnf : ¬ NoFree (pgs n) K F) :
    Calls Tryz.prog 13 #[.pointer (some ⟨sb, 0, none⟩), .agg #[.int .i64 0, .slice (some ⟨g, 0, none⟩) 1 1]] w fun e w' =>
      ∃ (d : Nat) (m' : Int → Option Value) (vs' : List Value) (N' : List Nd), e = .returned (.tuple #[.int .i64 d, .int .i64 0]) ∧ FirstFree (pgs n) K F d ∧ OwnT H A0 (stL sb p h at_ kb fb K m' vs' N' (tDisc p mb B n cap bm S L :: R)) w' ∧ StOk (pgs n) K (putF F (d : Nat) (node nn)) vs' N' m' := by
  refine (Z4b nn w O ok hrow).mono ?_
  rintro e w' (⟨d, m', vs', N', hd, rfl, O', ok'⟩ | ⟨hn, _⟩)
  · exact ⟨d, m', vs', N', rfl, hd, O', ok'⟩
  · exact (hnf hn).elim
theorem sadd_two (nn : Int) {g : Nat} (w : World) (O : OwnT H A0 (stL sb p h at_ kb fb K m vs N (tDisc p mb B n cap bm S L :: R)) w) (ok : StOk (pgs n) K F vs N m) (hrow : Row w (some ⟨g, 0, none⟩) 2 pairC (nodeP nn)) :
    Calls Tryz.prog 13 #[.pointer (some ⟨sb, 0, none⟩), .agg #[.int .i64 0, .slice (some ⟨g, 0, none⟩) 1 1]] w fun e w' =>
      ∃ (c ef : Int) (F' : Int → Option Nd) (m' : Int → Option Value) (vs' : List Value) (N' : List Nd), e = .returned (.tuple #[.int .i64 c, .int .i64 ef]) ∧ OwnT H A0 (stL sb p h at_ kb fb K m' vs' N' (tDisc p mb B n cap bm S L :: R)) w' ∧ StOk (pgs n) K F' vs' N' m' ∧ ((∃ d : Nat, c = d ∧ ef = 0 ∧ FirstFree (pgs n) K F d ∧ F' = putF F (d : Nat) (node nn)) ∨ (c = 0 ∧ ef = 6 ∧ NoFree (pgs n) K F ∧ F' = F)) := by
  refine (Z4b nn w O ok hrow).mono ?_
  rintro e w' (⟨d, m', vs', N', hd, rfl, O', ok'⟩ | ⟨hn, rfl, O'⟩)
  · exact ⟨_, _, _, m', vs', N', rfl, O', ok', .inl ⟨d, rfl, rfl, hd, rfl⟩⟩
  · exact ⟨_, _, _, m, vs, N, rfl, O', ok, .inr ⟨rfl, rfl, hn, rfl⟩⟩
end
end Go.Proofs.YtakkhglbdljfiaaGreatDoor
