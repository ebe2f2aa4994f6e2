/- A region that draws its order and whose last operations, in order, write. No function of the program in sight. -/
import Derived.Test.YtakkhglbdljfiaaGreatDoorKStoreShadows04
import Derived.Test.YtakkhglbdljfiaaGreatDoorKStoreShadows08
import Derived.Test.YtakkhglbdljfiaaGreatDoorKStoreShadows03
namespace Go.Proofs.YtakkhglbdljfiaaGreatDoor
set_option linter.unusedVariables false
set_option linter.unusedSimpArgs false
open Go.RowKit

abbrev RE : (Nat → Bool) → World → World → Prop := fun _ => Ext
section
variable {P : Program} {Q : Exit → Act → World → Prop} {a a0 : Act} {w w' w0 : World} {n : Nat} {D D' : List Tmp} {o : Oper} {v : Value} {K : Act → World → Prop}
theorem tail_val (d : Tmp) (D' : List Tmp) (hE : Env a0 D a) (k : Fr n a0) (hd : o.dst = some d) (hn : Nat.blt d n = true) (hs : D.all (fun d => D'.contains d) = true) (hD : D'.contains d = true)
    (h : (execOp a.eval o).run P w = .ok (.value v) w')
    (hk : ∀ a', Env a0 D' a' → a'.eval (.tmp d) = v → (∀ t, Nat.beq t d = false → a'.eval (.tmp t) = a.eval (.tmp t)) → K a' w') : o.wp P a w K Q := by
  refine Z10 h ?_
  rw [hd]
  exact hk _ ((hE.mono hs).put hD v) (Z0h (by rw [hE.size, k.size]; exact Nat.le_of_ble_eq_true hn)) (fun t ht => Z0m ht v)
/-! A region that draws, with one call in the midst that writes; what stands behind it moves its answer's parts. -/
def projV : Value → Nat → Value
  | .tuple vs, i => vs.getD i undef
  | v, _ => v
def IM (ic : Nat) (anc : List Nat) (w0 : World) : (Nat → Bool) → World → Prop := fun l w => (l ic = false → Ext w0 w) ∧ (l ic = true → ∀ i ∈ anc, l i = true)
section
variable {R : (Nat → Bool) → World → World → Prop} {ops : Array Oper} {I : (Nat → Bool) → World → Prop} {A : List (List Nat)} {G : List (Nat × TFactL R) → Prop} {k ic : Nat} {os : List Oper} {done : List (Nat × TFactL R)} {anc : List Nat} {l : Nat → Bool}
theorem IM.pre (h : IM ic anc w0 l w) (hk : anc.contains k = true) (hl : l k = false) : Ext w0 w := by
  refine h.1 ?_
  cases e : l ic with
  | false => rfl
  | true =>
    have := h.2 e k (by simpa using hk)
    rw [hl] at this
    cases this
theorem IM.upd (h : IM ic anc w0 l w) (hk : Nat.beq k ic = false) : IM ic anc w0 (upd l k) w := by
  have hne : ¬ ic = k := fun e => Nat.ne_of_beq_eq_false hk e.symm
  refine ⟨fun hf => h.1 (by simpa [Go.Proofs.YtakkhglbdljfiaaGreatDoor.upd, hne] using hf), fun ht i hi => ?_⟩
  have := h.2 (by simpa [Go.Proofs.YtakkhglbdljfiaaGreatDoor.upd, hne] using ht) i hi
  unfold Go.Proofs.YtakkhglbdljfiaaGreatDoor.upd
  split
  · rfl
  · exact this
theorem IM.grow (h : IM ic anc w0 l w) (hk : Nat.beq k ic = false) (he : Ext w w') : IM ic anc w0 (Go.Proofs.YtakkhglbdljfiaaGreatDoor.upd l k) w' := by
  have h2 := h.upd hk
  exact ⟨fun hf => (h2.1 hf).trans he, h2.2⟩
theorem IM.at_ (hA : ∀ i ∈ anc, l i = true) : IM ic anc w0 (Go.Proofs.YtakkhglbdljfiaaGreatDoor.upd l ic) w :=
  ⟨fun h => by simp [Go.Proofs.YtakkhglbdljfiaaGreatDoor.upd] at h, fun _ i hi => by unfold Go.Proofs.YtakkhglbdljfiaaGreatDoor.upd; split; rfl; exact hA i hi⟩
/-- The slot holds what another one's value gives. -/
def relL (k : Nat) (d s : Tmp) (g : Value → Value) : TFactL R := ⟨k, [d, s], fun a _ => a.eval (.tmp d) = g (a.eval (.tmp s)), fun a a' _ h e => by
  rw [← Z12 (h d (by simp)), ← Z12 (h s (by simp))]; exact e, fun _ _ _ _ _ _ e => e⟩
theorem BuildL.rel (d s : Tmp) (g : Value → Value) (hds : Nat.beq s d = false) (hrr : ∀ l w, R l w w) (hI : ∀ l w, I l w → I (upd l k) w) (hd : o.dst = some d) (hn : Nat.blt d a0.tmps.size = true) (hg : o.guard = none)
    (h : ∀ l a w, Env a0 D a → I l w → (∀ (i : Nat) (S' : TFactL R), i ∈ A.getD k [] → (i, S') ∈ done → S'.T a w) → (execOp a.eval o).run P w = .ok (.value (g (a.eval (.tmp s)))) w)
    (hr : BuildL P R ops I a0 D A G (k + 1) os ((k, relL k d s g) :: done)) : BuildL P R ops I a0 D A G k (o :: os) done :=
  .step _ rfl (fun l a w hE hR _ _ hF => .inl ⟨Z0b hg, by
    unfold YieldsR
    rw [h l a w hE hR hF]
    refine ⟨hrr l w, hI l w hR, ?_⟩
    rw [hd]
    show (a.put (some d) _).eval (.tmp d) = g ((a.put (some d) _).eval (.tmp s))
    rw [Z0h (by rw [hE.size]; exact Nat.le_of_ble_eq_true hn), Z0m hds]⟩) hr
end
end
end Go.Proofs.YtakkhglbdljfiaaGreatDoor

/- A region that draws its order and holds two stores, the one behind the other. No function of the program in sight. -/
namespace Go.Proofs.YtakkhglbdljfiaaGreatDoor
set_option linter.unusedVariables false
set_option linter.unusedSimpArgs false
open Go.RowKit

abbrev RT2 : (Nat → Bool) → World → World → Prop := fun _ _ _ => True
/-- Three states: no store done, the first one, both. -/
def I2 (s1 s2 : Nat) (H : Nat) (A0 : World) (L0 L1 L2 : List Thing) : (Nat → Bool) → World → Prop := fun l w =>
  (l s1 = false ∧ l s2 = false ∧ OwnT H A0 L0 w) ∨ (l s1 = true ∧ l s2 = false ∧ OwnT H A0 L1 w) ∨ (l s1 = true ∧ l s2 = true ∧ OwnT H A0 L2 w)
section
variable {P : Program} {Q : Exit → Act → World → Prop} {ops : Array Oper} {a0 : Act} {D : List Tmp} {A : List (List Nat)} {G : List (Nat × TFactL RT2) → Prop} {k s1 s2 : Nat} {o : Oper} {os : List Oper} {done : List (Nat × TFactL RT2)} {H : Nat} {A0 w : World} {L0 L1 L2 : List Thing} {l : Nat → Bool}
theorem I2.keep (h : I2 s1 s2 H A0 L0 L1 L2 l w) (hk : (Nat.beq k s1 || Nat.beq k s2) = false) : I2 s1 s2 H A0 L0 L1 L2 (upd l k) w := by
  rw [Bool.or_eq_false_iff] at hk
  have n1 : ¬ s1 = k := fun e => Nat.ne_of_beq_eq_false hk.1 e.symm
  have n2 : ¬ s2 = k := fun e => Nat.ne_of_beq_eq_false hk.2 e.symm
  unfold I2 upd at *
  simp only [if_neg n1, if_neg n2]
  exact h
theorem I2.any (h : I2 s1 s2 H A0 L0 L1 L2 l w) : OwnT H A0 L0 w ∨ OwnT H A0 L1 w ∨ OwnT H A0 L2 w := by
  rcases h with ⟨_, _, h⟩ | ⟨_, _, h⟩ | ⟨_, _, h⟩
  · exact .inl h
  · exact .inr (.inl h)
  · exact .inr (.inr h)
def triv2 (k : Nat) : TFactL RT2 := ⟨k, [], fun _ _ => True, fun _ _ _ _ h => h, fun _ _ _ _ _ _ h => h⟩
theorem BuildS.det (d : Tmp) {v : Value} (h1 : (Nat.beq k s1 || Nat.beq k s2) = false) (hd : o.dst = some d) (hn : Nat.blt d a0.tmps.size = true) (hg : o.guard = none)
    (h : ∀ a w, Env a0 D a → (OwnT H A0 L0 w ∨ OwnT H A0 L1 w ∨ OwnT H A0 L2 w) → (∀ (i : Nat) (S' : TFactL RT2), i ∈ A.getD k [] → (i, S') ∈ done → S'.T a w) → (execOp a.eval o).run P w = .ok (.value v) w)
    (hr : BuildL P RT2 ops (I2 s1 s2 H A0 L0 L1 L2) a0 D A G (k + 1) os ((k, detL k d v) :: done)) : BuildL P RT2 ops (I2 s1 s2 H A0 L0 L1 L2) a0 D A G k (o :: os) done :=
  BuildL.det d (fun _ _ => trivial) (fun _ _ hI => hI.keep h1) hd hn hg (fun l a w hE hI hF => h a w hE hI.any hF) hr
theorem BuildS.store1 (hk : k = s1) (h12 : Nat.beq s1 s2 = false) (hd : o.dst = none) (hg : o.guard = none)
    (h : ∀ a w, Env a0 D a → OwnT H A0 L0 w → (∀ (i : Nat) (S' : TFactL RT2), i ∈ A.getD k [] → (i, S') ∈ done → S'.T a w) → ∃ w', (execOp a.eval o).run P w = .ok .skip w' ∧ OwnT H A0 L1 w')
    (hr : BuildL P RT2 ops (I2 s1 s2 H A0 L0 L1 L2) a0 D A G (k + 1) os ((k, triv2 k) :: done)) : BuildL P RT2 ops (I2 s1 s2 H A0 L0 L1 L2) a0 D A G k (o :: os) done :=
  .step _ rfl (fun l a w hE hI hl hA hF => by
    subst hk
    have n2 : ¬ s2 = k := fun e => Nat.ne_of_beq_eq_false h12 e.symm
    rcases hI with ⟨h1, h2, O⟩ | ⟨h1, _⟩ | ⟨h1, _⟩
    · obtain ⟨w', hrun, O'⟩ := h a w hE O hF
      refine .inl ⟨Z0b hg, ?_⟩
      unfold YieldsR
      rw [hrun]
      refine ⟨trivial, .inr (.inl ⟨?_, ?_, O'⟩), trivial⟩
      · unfold upd; rw [if_pos rfl]
      · unfold upd; rw [if_neg n2]; exact h2
    · rw [hl] at h1; cases h1
    · rw [hl] at h1; cases h1) hr
theorem BuildS.store2 (hk : k = s2) (h12 : Nat.beq s1 s2 = false) (hA : (A.getD k []).contains s1 = true) (hd : o.dst = none) (hg : o.guard = none)
    (h : ∀ a w, Env a0 D a → OwnT H A0 L1 w → (∀ (i : Nat) (S' : TFactL RT2), i ∈ A.getD k [] → (i, S') ∈ done → S'.T a w) → ∃ w', (execOp a.eval o).run P w = .ok .skip w' ∧ OwnT H A0 L2 w')
    (hr : BuildL P RT2 ops (I2 s1 s2 H A0 L0 L1 L2) a0 D A G (k + 1) os ((k, triv2 k) :: done)) : BuildL P RT2 ops (I2 s1 s2 H A0 L0 L1 L2) a0 D A G k (o :: os) done :=
  .step _ rfl (fun l a w hE hI hl hA' hF => by
    subst hk
    have n1 : ¬ s1 = k := Nat.ne_of_beq_eq_false h12
    have hs1 : l s1 = true := hA' s1 (by simpa using hA)
    rcases hI with ⟨h1, _⟩ | ⟨h1, h2, O⟩ | ⟨_, h2, _⟩
    · rw [hs1] at h1; cases h1
    · obtain ⟨w', hrun, O'⟩ := h a w hE O hF
      refine .inl ⟨Z0b hg, ?_⟩
      unfold YieldsR
      rw [hrun]
      refine ⟨trivial, .inr (.inr ⟨?_, ?_, O'⟩), trivial⟩
      · unfold upd; rw [if_neg n1]; exact hs1
      · unfold upd; rw [if_pos rfl]
    · rw [hl] at h2; cases h2) hr
theorem wp_stm {id : Nat} {l : List Oper} (s1 s2 : Nat) (A : List (List Nat)) (D : List Tmp) (O : OwnT H A0 L0 w) (hf : P.follows .mixedOrders = true)
    (h : BuildL P RT2 l.toArray (I2 s1 s2 H A0 L0 L1 L2) a0 D A (FinL P l (I2 s1 s2 H A0 L0 L1 L2) a0 D A Q) 0 l []) : (Code.region id l.toArray true).wp P Q a0 w :=
  Z50 RT2 (I2 s1 s2 H A0 L0 L1 L2) A D (fun _ _ => trivial) (.inl ⟨rfl, rfl, O.drew⟩) hf h
theorem I2.end_ (h : I2 s1 s2 H A0 L0 L1 L2 l w) (h2 : l s2 = true) : OwnT H A0 L2 w := by
  rcases h with ⟨_, e, _⟩ | ⟨_, e, _⟩ | ⟨_, _, O⟩
  · rw [h2] at e; cases e
  · rw [h2] at e; cases e
  · exact O
end
end Go.Proofs.YtakkhglbdljfiaaGreatDoor
