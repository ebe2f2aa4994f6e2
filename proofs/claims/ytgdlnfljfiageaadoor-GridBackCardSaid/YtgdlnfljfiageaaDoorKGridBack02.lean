/- A region that draws its order and holds calls that write: an invariant of the world by what is done; each operation leaves a fact of its slot. No function of the program in sight. -/
import Derived.Test.YtgdlnfljfiageaaDoorKGridBack01
namespace Go.Proofs.YtgdlnfljfiageaaDoor
set_option linter.unusedVariables false
set_option linter.unusedSimpArgs false
open Go.RowKit

/-- No relation of worlds. -/
abbrev Any2 : World → World → Prop := fun _ _ => True
def upd (l : Nat → Bool) (k : Nat) : Nat → Bool := fun i => if i = k then true else l i

def YieldsI (P : Program) (J : World → Prop) (o : Oper) (T : Act → World → Prop) (a : Act) (w : World) : Prop :=
  match (execOp a.eval o).run P w with
  | .ok (.value v) w' => J w' ∧ T (a.put o.dst v) w'
  | .ok .skip w' => J w' ∧ T (a.put o.dst undef) w'
  | .ok (.enter f args) w' => Calls P f args w' (fun e w'' => ∃ v, e = .returned v ∧ J w'' ∧ T (a.put o.dst v) w'')
  | _ => False
def opI (P : Program) (ops : Array Oper) (J : World → Prop) (o : Oper) (T : Act → World → Prop) (a : Act) (w : World) : Prop :=
  (Region.wanted o (yielded ops a.tmps) = true ∧ YieldsI P J o T a w) ∨ (Region.wanted o (yielded ops a.tmps) = false ∧ J w ∧ T (a.put o.dst undef) w)

section
variable {P : Program} {ops : Array Oper} {I : (Nat → Bool) → World → Prop} {a0 : Act} {D : List Tmp} {A : List (List Nat)} {Fs : List (TFact Any2)} {m : Nat} {Q : Exit → Act → World → Prop}

structure PInv (ops : Array Oper) (I : (Nat → Bool) → World → Prop) (a0 : Act) (D : List Tmp) (Fs : List (TFact Any2)) (m : Nat) (listed : Array Bool) (a : Act) (w : World) : Prop where
  sz : listed.size = ops.size
  env : Env a0 D a
  inv : I (fun i => listed.getD i false) w
  closed : ∀ j o, listed.getD j false = true → ops[j]? = some o → ∀ e ∈ o.after, Region.binds .any e = true → listed.getD e.on false = true
  typed : ∀ i S, listed.getD i false = true → Fs[i]? = some S → S.T a w
  un : ∀ i, m ≤ i → listed.getD i false = false

theorem Z50 {listed : Array Bool} {i : Nat} (h : i < listed.size) : (fun j => (listed.setIfInBounds i true).getD j false) = upd (fun j => listed.getD j false) i := by
  funext j
  unfold upd
  by_cases hj : j = i
  · subst hj; rw [if_pos rfl]; exact Z0s h _
  · rw [if_neg hj]; exact getD_set_ne false (fun e => hj e.symm)

inductive BuildI (P : Program) (ops : Array Oper) (I : (Nat → Bool) → World → Prop) (a0 : Act) (D : List Tmp) (A : List (List Nat)) (G : List (Nat × TFact Any2) → Prop) : Nat → List Oper → List (Nat × TFact Any2) → Prop
  | stop {k : Nat} {os : List Oper} {done : List (Nat × TFact Any2)} (h : G done) : BuildI P ops I a0 D A G k os done
  | step {k : Nat} {o : Oper} {os : List Oper} {done : List (Nat × TFact Any2)} (S : TFact Any2) (h : ∀ l a w, Env a0 D a → I l w → l k = false → (∀ i ∈ A.getD k [], l i = true) → (∀ (i : Nat) (S' : TFact Any2), i ∈ A.getD k [] → (i, S') ∈ done → S'.T a w) → opI P ops (I (upd l k)) o S.T a w)
      (hr : BuildI P ops I a0 D A G (k + 1) os ((k, S) :: done)) : BuildI P ops I a0 D A G k (o :: os) done

variable {G : List (Nat × TFact Any2) → Prop} {k : Nat} {o : Oper} {os : List Oper} {done : List (Nat × TFact Any2)} {d : Tmp} {v : Value}
theorem BuildI.use (hb : BuildI P ops I a0 D A G k os done) (hk : k = done.length) (hwf : ∀ (i : Nat) (S : TFact Any2), (i, S) ∈ done → (facts done)[i]? = some S) : ∃ fin : List (Nat × TFact Any2), G fin ∧ (∀ (i : Nat) (S : TFact Any2), (facts done)[i]? = some S → (facts fin)[i]? = some S) ∧
    (∀ (i : Nat) (S : TFact Any2), (i, S) ∈ fin → (facts fin)[i]? = some S) ∧ done.length ≤ fin.length ∧
    ∀ (i : Nat) (o : Oper) (S : TFact Any2), os[i]? = some o → (facts fin)[k + i]? = some S → ∀ l a w, Env a0 D a → I l w → l (k + i) = false → (∀ j ∈ A.getD (k + i) [], l j = true) → (∀ (j : Nat) (S' : TFact Any2), j ∈ A.getD (k + i) [] → (facts fin)[j]? = some S' → S'.T a w) → opI P ops (I (upd l (k + i))) o S.T a w := by
  induction hb with
  | stop h =>
    rename_i k os done
    refine ⟨done, h, fun _ _ h => h, hwf, Nat.le_refl _, fun i o S _ hS => ?_⟩
    rw [List.getElem?_eq_none (by rw [Z0l]; omega)] at hS
    cases hS
  | step S h hr ih =>
    rename_i k o os done
    have hpre0 : ∀ (i : Nat) (S' : TFact Any2), (facts done)[i]? = some S' → (facts ((k, S) :: done))[i]? = some S' := fun i S' hi => by
      have hlt := (List.getElem?_eq_some_iff.1 hi).1
      rw [Z0t, List.getElem?_append_left hlt]; exact hi
    obtain ⟨fin, hG, h1, hw, h2, h4⟩ := ih (by simp [hk]) (fun i S' hm => by
      rcases List.mem_cons.1 hm with he | hm
      · cases he
        rw [Z0t, hk, ← Z0l done]
        simp
      · exact hpre0 i S' (hwf i S' hm))
    refine ⟨fin, hG, fun i S' hi => h1 i S' (hpre0 i S' hi), hw, by simp at h2; omega, ?_⟩
    intro i o' S' hi hS
    cases i with
    | zero =>
      simp at hi
      subst hi
      have : (facts fin)[k + 0]? = some S := h1 k S (by rw [Z0t, hk, ← Z0l done]; simp)
      rw [this] at hS
      cases hS
      intro l a w hE hR hl hA hF
      exact h l a w hE hR hl hA (fun j S' hj hd => hF j S' hj (h1 j S' (hpre0 j S' (hwf j S' hd))))
    | succ i =>
      have := h4 i o' S' (by simpa using hi) (by rwa [show k + 1 + i = k + (i + 1) by omega])
      intro l a w hE hR hl hA hF
      rw [show k + (i + 1) = k + 1 + i by omega] at hl hA ⊢
      exact this l a w hE hR hl hA (fun j S' hj hd => hF j S' (by rwa [show k + (i + 1) = k + 1 + i by omega]) hd)


theorem BuildI.det (d : Tmp) {v : Value} (hI : ∀ l w, I l w → I (upd l k) w) (hd : o.dst = some d) (hn : Nat.blt d a0.tmps.size = true) (hg : o.guard = none)
    (h : ∀ l a w, Env a0 D a → I l w → (∀ (i : Nat) (S' : TFact Any2), i ∈ A.getD k [] → (i, S') ∈ done → S'.T a w) → (execOp a.eval o).run P w = .ok (.value v) w)
    (hr : BuildI P ops I a0 D A G (k + 1) os ((k, Proofs.YtgdlnfljfiageaaDoor.det d v) :: done)) : BuildI P ops I a0 D A G k (o :: os) done :=
  .step _ (fun l a w hE hR _ _ hF => .inl ⟨Z0h hg, by
    unfold YieldsI
    rw [h l a w hE hR hF]
    exact ⟨hI l w hR, by rw [hd]; exact Z0g (by rw [hE.size]; exact Nat.le_of_ble_eq_true hn)⟩⟩) hr
/-- A call; its law may ask what is done. -/
theorem BuildI.call (d : Tmp) {v : Value} {f : FuncId} {args : Array Value} (hd : o.dst = some d) (hn : Nat.blt d a0.tmps.size = true) (hg : o.guard = none)
    (h : ∀ l a w, Env a0 D a → I l w → (∀ (i : Nat) (S' : TFact Any2), i ∈ A.getD k [] → (i, S') ∈ done → S'.T a w) → (execOp a.eval o).run P w = .ok (.enter f args) w)
    (hc : ∀ l w, I l w → l k = false → (∀ i ∈ A.getD k [], l i = true) → Calls P f args w fun e w' => e = .returned v ∧ I (upd l k) w')
    (hr : BuildI P ops I a0 D A G (k + 1) os ((k, Proofs.YtgdlnfljfiageaaDoor.det d v) :: done)) : BuildI P ops I a0 D A G k (o :: os) done :=
  .step _ (fun l a w hE hR hl hA hF => .inl ⟨Z0h hg, by
    unfold YieldsI
    rw [h l a w hE hR hF]
    exact (hc l w hR hl hA).mono fun e w' ⟨he, hI⟩ => ⟨v, he, hI, by rw [hd]; exact Z0g (by rw [hE.size]; exact Nat.le_of_ble_eq_true hn)⟩⟩) hr
end
end Go.Proofs.YtgdlnfljfiageaaDoor
