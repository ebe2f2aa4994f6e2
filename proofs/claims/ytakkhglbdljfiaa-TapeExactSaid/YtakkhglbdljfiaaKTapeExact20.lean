/- A region that draws its order and whose last operations, in order, write. No function of the program in sight. -/
import Derived.Test.YtakkhglbdljfiaaKTapeExact07
import Derived.Test.YtakkhglbdljfiaaKTapeExact11
namespace Go.Proofs.Ytakkhglbdljfiaa
set_option linter.unusedVariables false
set_option linter.unusedSimpArgs false
open Go.RowKit

abbrev RE : (Nat → Bool) → World → World → Prop := fun _ => Ext
section
variable {P : Program} {Q : Exit → Act → World → Prop} {a a0 : Act} {w w' w0 : World} {n : Nat} {D D' : List Tmp} {o : Oper} {v : Value} {K : Act → World → Prop}
/-! A region that draws, with one call in the midst that writes; what stands behind it moves its answer's parts. -/
def RM (ic : Nat) : (Nat → Bool) → World → World → Prop := fun l w w' => l ic = true → Ext w w'
def IM (ic : Nat) (anc : List Nat) (w0 : World) : (Nat → Bool) → World → Prop := fun l w => (l ic = false → Ext w0 w) ∧ (l ic = true → ∀ i ∈ anc, l i = true)
section
variable {R : (Nat → Bool) → World → World → Prop} {ops : Array Oper} {I : (Nat → Bool) → World → Prop} {A : List (List Nat)} {G : List (Nat × TFactL R) → Prop} {k ic : Nat} {os : List Oper} {done : List (Nat × TFactL R)} {anc : List Nat} {l : Nat → Bool}
theorem IM.pre (h : IM ic anc w0 l w) (hk : anc.contains k = true) (hl : l k = false) : Ext w0 w := by
  refine h.1 ?_
  cases e : l ic with
  | false => rfl
  | true =>
    have := h.2 e k (by simpa using hk)
    rw [hl] at this
    cases this
theorem IM.upd (h : IM ic anc w0 l w) (hk : Nat.beq k ic = false) : IM ic anc w0 (upd l k) w := by
  have hne : ¬ ic = k := fun e => Nat.ne_of_beq_eq_false hk e.symm
  refine ⟨fun hf => h.1 (by simpa [Go.Proofs.Ytakkhglbdljfiaa.upd, hne] using hf), fun ht i hi => ?_⟩
  have := h.2 (by simpa [Go.Proofs.Ytakkhglbdljfiaa.upd, hne] using ht) i hi
  unfold Go.Proofs.Ytakkhglbdljfiaa.upd
  split
  · rfl
  · exact this
theorem IM.grow (h : IM ic anc w0 l w) (hk : Nat.beq k ic = false) (he : Ext w w') : IM ic anc w0 (Go.Proofs.Ytakkhglbdljfiaa.upd l k) w' := by
  have h2 := h.upd hk
  exact ⟨fun hf => (h2.1 hf).trans he, h2.2⟩
theorem IM.at_ (hA : ∀ i ∈ anc, l i = true) : IM ic anc w0 (Go.Proofs.Ytakkhglbdljfiaa.upd l ic) w :=
  ⟨fun h => by simp [Go.Proofs.Ytakkhglbdljfiaa.upd] at h, fun _ i hi => by unfold Go.Proofs.Ytakkhglbdljfiaa.upd; split; rfl; exact hA i hi⟩
theorem wp_mid {id : Nat} {l : List Oper} (ic : Nat) (A : List (List Nat)) (D : List Tmp) (hf : P.follows .mixedOrders = true)
    (h : BuildL P (RM ic) l.toArray (IM ic (A.getD ic []) w0) a0 D A (FinL P l (IM ic (A.getD ic []) w0) a0 D A Q) 0 l []) : (Code.region id l.toArray true).wp P Q a0 w0 :=
  Z3f (RM ic) _ A D (fun _ w _ => Ext.refl w) ⟨fun _ => Ext.drew w0, fun h => by cases h⟩ hf h
/-- The slot holds what another one's value gives. -/
def relL (k : Nat) (d s : Tmp) (g : Value → Value) : TFactL R := ⟨k, [d, s], fun a _ => a.eval (.tmp d) = g (a.eval (.tmp s)), fun a a' _ h e => by
  rw [← Z0s (h d (by simp)), ← Z0s (h s (by simp))]; exact e, fun _ _ _ _ _ _ e => e⟩
theorem BuildL.rel (d s : Tmp) (g : Value → Value) (hds : Nat.beq s d = false) (hrr : ∀ l w, R l w w) (hI : ∀ l w, I l w → I (upd l k) w) (hd : o.dst = some d) (hn : Nat.blt d a0.tmps.size = true) (hg : o.guard = none)
    (h : ∀ l a w, Env a0 D a → I l w → (∀ (i : Nat) (S' : TFactL R), i ∈ A.getD k [] → (i, S') ∈ done → S'.T a w) → (execOp a.eval o).run P w = .ok (.value (g (a.eval (.tmp s)))) w)
    (hr : BuildL P R ops I a0 D A G (k + 1) os ((k, relL k d s g) :: done)) : BuildL P R ops I a0 D A G k (o :: os) done :=
  .step _ rfl (fun l a w hE hR _ _ hF => .inl ⟨Z0c hg, by
    unfold YieldsR
    rw [h l a w hE hR hF]
    refine ⟨hrr l w, hI l w hR, ?_⟩
    rw [hd]
    show (a.put (some d) _).eval (.tmp d) = g ((a.put (some d) _).eval (.tmp s))
    rw [Z0d (by rw [hE.size]; exact Nat.le_of_ble_eq_true hn), Z0x hds]⟩) hr
theorem BuildL.detA (d : Tmp) {v : Value} (hrr : ∀ l w, R l w w) (hI : ∀ l w, I l w → I (upd l k) w) (hd : o.dst = some d) (hn : Nat.blt d a0.tmps.size = true) (hg : o.guard = none)
    (h : ∀ l a w, Env a0 D a → I l w → l k = false → (∀ i ∈ A.getD k [], l i = true) → (∀ (i : Nat) (S' : TFactL R), i ∈ A.getD k [] → (i, S') ∈ done → S'.T a w) → (execOp a.eval o).run P w = .ok (.value v) w)
    (hr : BuildL P R ops I a0 D A G (k + 1) os ((k, detL k d v) :: done)) : BuildL P R ops I a0 D A G k (o :: os) done :=
  .step _ rfl (fun l a w hE hR hl hA hF => .inl ⟨Z0c hg, by
    unfold YieldsR
    rw [h l a w hE hR hl hA hF]
    exact ⟨hrr l w, hI l w hR, by rw [hd]; exact Z0d (by rw [hE.size]; exact Nat.le_of_ble_eq_true hn)⟩⟩) hr
end
end
end Go.Proofs.Ytakkhglbdljfiaa
