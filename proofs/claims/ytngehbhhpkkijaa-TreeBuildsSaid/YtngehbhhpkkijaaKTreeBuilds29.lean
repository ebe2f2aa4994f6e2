/- A region that draws its order, with one call in the midst that writes and a block that is made (before it or behind it) and filled with a part of its answer. No function of the program in sight. -/
import Derived.Test.YtngehbhhpkkijaaKTreeBuilds28
import Derived.Test.YtngehbhhpkkijaaKTreeBuilds09
namespace Go.Proofs.Ytngehbhhpkkijaa
set_option linter.unusedVariables false
set_option linter.unusedSimpArgs false
open Go.RowKit

abbrev RT0 : (Nat → Bool) → World → World → Prop := fun _ _ _ => True
/-- Three operations that count: the call, the block's making, its filling. -/
structure Spots where
  ic : Nat
  il : Nat
  is : Nat
  s : Tmp
  d : Tmp
  T : TypeId
  zs : Array Value
  cs : Value → Array Value
def IA (S : Spots) (anc : List Nat) (Φ : Value → List Thing → Prop) (H : Nat) (A0 : World) (L0 : List Thing) : (Nat → Bool) → Act → World → Prop := fun l a w =>
  ∃ L, (l S.ic = false → L = L0) ∧ (l S.ic = true → (∀ i ∈ anc, l i = true) ∧ Φ (a.eval (.tmp S.d)) L) ∧ (l S.is = true → l S.ic = true ∧ l S.il = true) ∧
    (l S.il = false → OwnT H A0 L w) ∧ (l S.il = true → ∃ g, a.eval (.tmp S.s) = .pointer (some ⟨g, 0, none⟩) ∧ OwnT H A0 (tBlk g S.T (if l S.is = true then S.cs (a.eval (.tmp S.d)) else S.zs) :: L) w)
def triv (k : Nat) : TFactL RT0 := ⟨k, [], fun _ _ => True, fun _ _ _ _ h => h, fun _ _ _ _ _ _ h => h⟩
section
variable {P : Program} {Q : Exit → Act → World → Prop} {a a0 : Act} {w w' w0 : World} {S : Spots} {Φ : Value → List Thing → Prop} {H : Nat} {A0 : World} {L0 : List Thing} {anc : List Nat} {l : Nat → Bool}
  {ops : Array Oper} {D : List Tmp} {A : List (List Nat)} {G : List (Nat × TFactL RT0) → Prop} {k : Nat} {o : Oper} {os : List Oper} {done : List (Nat × TFactL RT0)}
theorem Z1a {i : Nat} (h : Nat.beq k i = false) : Go.Proofs.Ytngehbhhpkkijaa.upd l k i = l i := by
  have hne : ¬ i = k := fun e => Nat.ne_of_beq_eq_false h e.symm
  simp [Go.Proofs.Ytngehbhhpkkijaa.upd, hne]
theorem Z3p {m n : Nat} (h : Nat.beq m n = false) : Nat.beq n m = false := by
  cases e : Nat.beq n m with
  | false => rfl
  | true => rw [Nat.eq_of_beq_eq_true e, Nat.beq_refl] at h; cases h
theorem Z60 : Go.Proofs.Ytngehbhhpkkijaa.upd l k k = true := by simp [Go.Proofs.Ytngehbhhpkkijaa.upd]
theorem Z2l {i : Nat} (h : l i = true) : Go.Proofs.Ytngehbhhpkkijaa.upd l k i = true := by
  unfold Go.Proofs.Ytngehbhhpkkijaa.upd
  split
  · rfl
  · exact h
theorem ic_false (h : l S.ic = true → ∀ i ∈ anc, l i = true) (hk : anc.contains k = true) (hl : l k = false) : l S.ic = false := by
  cases e : l S.ic with
  | false => rfl
  | true =>
    have := h e k (by simpa using hk)
    rw [hl] at this
    cases this
theorem IA.pre (h : IA S anc Φ H A0 L0 l a w) (hk : anc.contains k = true) (hl : l k = false) : OwnT H A0 L0 w := by
  obtain ⟨L, h1, h2, h3, h4, h5⟩ := h
  obtain rfl := h1 (ic_false (fun e => (h2 e).1) hk hl)
  cases e : l S.il with
  | false => exact h4 e
  | true =>
    obtain ⟨g, _, h⟩ := h5 e
    exact h.tail
theorem IA.keep (h : IA S anc Φ H A0 L0 l a w) {d : Tmp} (v : Value) (h1 : (Nat.beq S.s d || Nat.beq S.d d || Nat.beq k S.ic || Nat.beq k S.il || Nat.beq k S.is) = false) : IA S anc Φ H A0 L0 (Go.Proofs.Ytngehbhhpkkijaa.upd l k) (a.put (some d) v) w := by
  simp only [Bool.or_eq_false_iff] at h1
  obtain ⟨⟨⟨⟨n1, n2⟩, n3⟩, n4⟩, n5⟩ := h1
  have e1 : (a.put (some d) v).eval (.tmp S.s) = a.eval (.tmp S.s) := Z0j n1 v
  have e2 : (a.put (some d) v).eval (.tmp S.d) = a.eval (.tmp S.d) := Z0j n2 v
  obtain ⟨L, k1, k2, k3, k4, k5⟩ := h
  refine ⟨L, ?_, ?_, ?_, ?_, ?_⟩
  · rw [Z1a n3]; exact k1
  · rw [Z1a n3, e2]; exact fun h => ⟨fun i hi => Z2l ((k2 h).1 i hi), (k2 h).2⟩
  · rw [Z1a n3, Z1a n4, Z1a n5]; exact k3
  · rw [Z1a n4]; exact k4
  · rw [Z1a n4, Z1a n5, e1, e2]; exact k5
theorem BuildA.det (d : Tmp) {v : Value} (h1 : (Nat.beq S.s d || Nat.beq S.d d || Nat.beq k S.ic || Nat.beq k S.il || Nat.beq k S.is) = false) (hd : o.dst = some d) (hn : Nat.blt d a0.tmps.size = true) (hg : o.guard = none)
    (h : ∀ l a w, Env a0 D a → IA S anc Φ H A0 L0 l a w → l k = false → (∀ i ∈ A.getD k [], l i = true) → (∀ (i : Nat) (S' : TFactL RT0), i ∈ A.getD k [] → (i, S') ∈ done → S'.T a w) → (execOp a.eval o).run P w = .ok (.value v) w)
    (hr : BuildM P RT0 ops (IA S anc Φ H A0 L0) a0 D A G (k + 1) os ((k, detL k d v) :: done)) : BuildM P RT0 ops (IA S anc Φ H A0 L0) a0 D A G k (o :: os) done :=
  .step _ rfl (fun l a w hE hR hl hA hF => .inl ⟨Z07 hg, by
    unfold YieldsR
    rw [h l a w hE hR hl hA hF]
    refine ⟨trivial, trivial, ?_, ?_⟩
    · rw [hd]; exact Z0b (by rw [hE.size]; exact Nat.le_of_ble_eq_true hn)
    · rw [hd]; exact hR.keep v h1⟩) hr
theorem BuildA.rel (d s' : Tmp) (g : Value → Value) (hds : Nat.beq s' d = false) (h1 : (Nat.beq S.s d || Nat.beq S.d d || Nat.beq k S.ic || Nat.beq k S.il || Nat.beq k S.is) = false) (hd : o.dst = some d) (hn : Nat.blt d a0.tmps.size = true) (hg : o.guard = none)
    (h : ∀ l a w, Env a0 D a → IA S anc Φ H A0 L0 l a w → (∀ i ∈ A.getD k [], l i = true) → (∀ (i : Nat) (S' : TFactL RT0), i ∈ A.getD k [] → (i, S') ∈ done → S'.T a w) → (execOp a.eval o).run P w = .ok (.value (g (a.eval (.tmp s')))) w)
    (hr : BuildM P RT0 ops (IA S anc Φ H A0 L0) a0 D A G (k + 1) os ((k, relL k d s' g) :: done)) : BuildM P RT0 ops (IA S anc Φ H A0 L0) a0 D A G k (o :: os) done :=
  .step _ rfl (fun l a w hE hR hl hA hF => .inl ⟨Z07 hg, by
    unfold YieldsR
    rw [h l a w hE hR hA hF]
    refine ⟨trivial, trivial, ?_, ?_⟩
    · rw [hd]
      show (a.put (some d) _).eval (.tmp d) = g ((a.put (some d) _).eval (.tmp s'))
      rw [Z0b (by rw [hE.size]; exact Nat.le_of_ble_eq_true hn), Z0j hds]
    · rw [hd]; exact hR.keep _ h1⟩) hr
theorem BuildA.alloc (h1 : (Nat.beq k S.il && !Nat.beq S.s S.d && !Nat.beq S.il S.ic && !Nat.beq S.il S.is) = true) (hd : o.dst = some S.s) (hn : Nat.blt S.s a0.tmps.size = true) (hg : o.guard = none)
    (h : ∀ (a : Act) w, (execOp a.eval o).run P w = .ok (.value (.pointer (some ⟨w.heap.size, 0, none⟩))) (w.alloc (.cells S.zs S.T)))
    (hr : BuildM P RT0 ops (IA S anc Φ H A0 L0) a0 D A G (k + 1) os ((k, triv k) :: done)) : BuildM P RT0 ops (IA S anc Φ H A0 L0) a0 D A G k (o :: os) done :=
  .step _ rfl (fun l a w hE hR hl hA hF => .inl ⟨Z07 hg, by
    simp only [Bool.and_eq_true, Bool.not_eq_true'] at h1
    obtain ⟨⟨⟨n1, n2⟩, n3⟩, n4⟩ := h1
    obtain rfl := Nat.eq_of_beq_eq_true n1
    unfold YieldsR
    rw [h a w]
    refine ⟨trivial, trivial, trivial, ?_⟩
    have e1 : (a.put o.dst (.pointer (some ⟨w.heap.size, 0, none⟩))).eval (.tmp S.s) = .pointer (some ⟨w.heap.size, 0, none⟩) := by rw [hd]; exact Z0b (by rw [hE.size]; exact Nat.le_of_ble_eq_true hn)
    have e2 : (a.put o.dst (.pointer (some ⟨w.heap.size, 0, none⟩))).eval (.tmp S.d) = a.eval (.tmp S.d) := by rw [hd]; exact Z0j (Z3p n2) _
    obtain ⟨L, k1, k2, k3, k4, k5⟩ := hR
    have hs : l S.is = false := by
      cases e : l S.is with
      | false => rfl
      | true => rw [(k3 e).2] at hl; cases hl
    refine ⟨L, ?_, ?_, ?_, ?_, ?_⟩
    · rw [Z1a n3]; exact k1
    · rw [Z1a n3, e2]; exact fun h => ⟨fun i hi => Z2l ((k2 h).1 i hi), (k2 h).2⟩
    · rw [Z1a n4, hs]; exact fun h => by cases h
    · rw [Z60]; exact fun h => by cases h
    · rw [Z1a n4, hs, e1]
      exact fun _ => ⟨_, rfl, (k4 hl).new S.T S.zs⟩⟩) hr
theorem BuildA.call (h1 : (Nat.beq k S.ic && !Nat.beq S.s S.d && !Nat.beq S.ic S.il && !Nat.beq S.ic S.is && (anc.all fun i => (A.getD k []).contains i)) = true) (hd : o.dst = some S.d) (hn : Nat.blt S.d a0.tmps.size = true) (hg : o.guard = none)
    (h : ∀ (l : Nat → Bool) a w, Env a0 D a → OwnT H A0 L0 w → (∀ i ∈ A.getD k [], l i = true) → (∀ (i : Nat) (S' : TFactL RT0), i ∈ A.getD k [] → (i, S') ∈ done → S'.T a w) →
      ∃ f args, (execOp a.eval o).run P w = .ok (.enter f args) w ∧ ∀ X, OwnT H A0 (X ++ L0) w → Calls P f args w fun e w' => ∃ v L, e = .returned v ∧ Φ v L ∧ OwnT H A0 (X ++ L) w')
    (hr : BuildM P RT0 ops (IA S anc Φ H A0 L0) a0 D A G (k + 1) os ((k, triv k) :: done)) : BuildM P RT0 ops (IA S anc Φ H A0 L0) a0 D A G k (o :: os) done :=
  .step _ rfl (fun l a w hE hR hl hA hF => .inl ⟨Z07 hg, by
    simp only [Bool.and_eq_true, Bool.not_eq_true', List.all_eq_true] at h1
    obtain ⟨⟨⟨⟨n1, n2⟩, n3⟩, n4⟩, n5⟩ := h1
    obtain rfl := Nat.eq_of_beq_eq_true n1
    obtain ⟨L, k1, k2, k3, k4, k5⟩ := hR
    obtain rfl := k1 hl
    have hs : l S.is = false := by
      cases e : l S.is with
      | false => rfl
      | true => rw [(k3 e).1] at hl; cases hl
    have hanc : ∀ i ∈ anc, Go.Proofs.Ytngehbhhpkkijaa.upd l S.ic i = true := fun i hi => Z2l (hA i (by simpa using n5 i hi))
    have e1 : ∀ v, (a.put o.dst v).eval (.tmp S.s) = a.eval (.tmp S.s) := fun v => by rw [hd]; exact Z0j n2 v
    have e2 : ∀ v, (a.put o.dst v).eval (.tmp S.d) = v := fun v => by rw [hd]; exact Z0b (by rw [hE.size]; exact Nat.le_of_ble_eq_true hn)
    have hO : OwnT H A0 L w := by
      cases e : l S.il with
      | false => exact k4 e
      | true => obtain ⟨g, _, h⟩ := k5 e; exact h.tail
    obtain ⟨f, args, hrun, hc⟩ := h l a w hE hO hA hF
    unfold YieldsR
    rw [hrun]
    cases hil : l S.il with
    | false =>
      refine (hc [] (k4 hil)).mono ?_
      rintro e w' ⟨v, L', rfl, hΦ, hO'⟩
      refine ⟨v, rfl, trivial, trivial, trivial, L', ?_, ?_, ?_, ?_, ?_⟩
      · rw [Z60]; exact fun h => by cases h
      · rw [e2]; exact fun _ => ⟨hanc, hΦ⟩
      · rw [Z1a n4, hs]; exact fun h => by cases h
      · exact fun _ => hO'
      · rw [Z1a n3, hil]; exact fun h => by cases h
    | true =>
      obtain ⟨g, eg, hg⟩ := k5 hil
      rw [hs] at hg
      refine (hc [_] hg).mono ?_
      rintro e w' ⟨v, L', rfl, hΦ, hO'⟩
      refine ⟨v, rfl, trivial, trivial, trivial, L', ?_, ?_, ?_, ?_, ?_⟩
      · rw [Z60]; exact fun h => by cases h
      · rw [e2]; exact fun _ => ⟨hanc, hΦ⟩
      · rw [Z1a n4, hs]; exact fun h => by cases h
      · rw [Z1a n3, hil]; exact fun h => by cases h
      · rw [Z1a n4, hs, e1]
        exact fun _ => ⟨g, eg, hO'⟩⟩) hr
theorem BuildA.store (h1 : (Nat.beq k S.is && !Nat.beq S.is S.il && !Nat.beq S.is S.ic && (A.getD k []).contains S.ic && (A.getD k []).contains S.il) = true) (hd : o.dst = none) (hg : o.guard = none)
    (h : ∀ (l : Nat → Bool) a w g L, Env a0 D a → (∀ i ∈ A.getD k [], l i = true) → (∀ (i : Nat) (S' : TFactL RT0), i ∈ A.getD k [] → (i, S') ∈ done → S'.T a w) → a.eval (.tmp S.s) = .pointer (some ⟨g, 0, none⟩) → Φ (a.eval (.tmp S.d)) L → OwnT H A0 (tBlk g S.T S.zs :: L) w →
      ∃ w', (execOp a.eval o).run P w = .ok .skip w' ∧ OwnT H A0 (tBlk g S.T (S.cs (a.eval (.tmp S.d))) :: L) w')
    (hr : BuildM P RT0 ops (IA S anc Φ H A0 L0) a0 D A G (k + 1) os ((k, triv k) :: done)) : BuildM P RT0 ops (IA S anc Φ H A0 L0) a0 D A G k (o :: os) done :=
  .step _ rfl (fun l a w hE hR hl hA hF => .inl ⟨Z07 hg, by
    simp only [Bool.and_eq_true, Bool.not_eq_true'] at h1
    obtain ⟨⟨⟨⟨n1, n2⟩, n3⟩, n4⟩, n5⟩ := h1
    obtain rfl := Nat.eq_of_beq_eq_true n1
    have hic : l S.ic = true := hA _ (by simpa using n4)
    have hil : l S.il = true := hA _ (by simpa using n5)
    obtain ⟨L, k1, k2, k3, k4, k5⟩ := hR
    obtain ⟨g, eg, hO⟩ := k5 hil
    rw [hl] at hO
    obtain ⟨w', hrun, hO'⟩ := h l a w g L hE hA hF eg (k2 hic).2 hO
    unfold YieldsR
    rw [hrun]
    refine ⟨trivial, trivial, trivial, L, ?_, ?_, ?_, ?_, ?_⟩
    · rw [Z1a n3, hic]; exact fun h => by cases h
    · rw [hd]; exact fun _ => ⟨fun i hi => Z2l ((k2 hic).1 i hi), (k2 hic).2⟩
    · rw [Z1a n3, Z1a n2]; exact fun _ => ⟨hic, hil⟩
    · rw [Z1a n2, hil]; exact fun h => by cases h
    · rw [Z60, hd]; exact fun _ => ⟨g, eg, hO'⟩⟩) hr
end
end Go.Proofs.Ytngehbhhpkkijaa
