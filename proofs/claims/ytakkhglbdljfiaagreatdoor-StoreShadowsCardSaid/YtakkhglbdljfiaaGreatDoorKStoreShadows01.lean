/- Regions by facts: the facts in use and the laws of single operations. -/
import Derived.Test.YtakkhglbdljfiaaGreatDoorKStoreShadows00
import Derived.BigQuiet
namespace Go.Proofs.YtakkhglbdljfiaaGreatDoor
set_option linter.unusedVariables false
set_option linter.unusedSimpArgs false
open Go.RowKit

/-- What was there is as it was. -/
abbrev Ext (w w' : World) : Prop := Below w.heap.size w w'
theorem Ext.refl (w : World) : Ext w w := Below.refl _ _
theorem Ext.trans {x y z : World} (h : Ext x y) (k : Ext y z) : Ext x z := Below.trans h (Below.mono k h.size)
theorem Ext.drew (w : World) : Ext w w.drew := (Below.refl _ w).drew
theorem Ext.alloc (w : World) (o : Obj) : Ext w (w.alloc o) := (Below.refl _ w).alloc (Nat.le_refl _) o
theorem Z7s {w w' : World} (h : w = w') : Ext w w' := h ▸ Ext.refl w
theorem Blk.ext {w w' : World} {g : Nat} {t : TypeId} {cs : Array Value} (h : Blk w g t cs) (k : Ext w w') : Blk w' g t cs := h.below k h.lt

section
variable {R : World → World → Prop}
theorem Z16 (a : Act) (t : Tmp) : a.eval (.tmp t) = a.tmps.getD t undef := rfl
theorem ev {a : Act} {t : Tmp} {v : Value} (h : a.eval (.tmp t) = v) : a.tmps[t]?.getD undef = v := by rw [← h, Z16, Array.getD_eq_getD_getElem?]
theorem Z12 {a a' : Act} {t : Tmp} (h : a.tmps[t]? = a'.tmps[t]?) : a.eval (.tmp t) = a'.eval (.tmp t) := by
  simp only [Z16, Array.getD_eq_getD_getElem?, h]
/-- The slot holds this value. -/
def det (d : Tmp) (v : Value) : TFact R := ⟨[d], fun a _ => a.eval (.tmp d) = v, fun a a' _ h e => (Z12 (h d (by simp))).symm.trans e, fun _ _ _ _ e => e⟩
/-- The slot holds a value of which this holds. -/
def fresh (d : Tmp) (φ : Value → World → Prop) (hφ : ∀ v w w', R w w' → φ v w → φ v w') : TFact R := ⟨[d], fun a w => φ (a.eval (.tmp d)) w, fun a a' w h e => by rw [← Z12 (h d (by simp))]; exact e, fun a w w' hR e => hφ _ _ _ hR e⟩
variable {P : Program} {ops : Array Oper} {w0 : World} {a0 : Act} {D : List Tmp} {A : List (List Nat)} {Fs : List (TFact R)}
theorem Env.eval {a : Act} (h : Env a0 D a) (t : Tmp) {v : Value} (ht : D.contains t = false) (hv : a0.eval (.tmp t) = v) : a.eval (.tmp t) = v :=
  (Z12 (h.keep t (by simpa using ht))).trans hv

variable {o : Oper} {a : Act} {w w' : World} {d : Tmp} {v : Value}
theorem Z0b (hg : o.guard = none) : Region.wanted o (yielded ops a.tmps) = true := by unfold Region.wanted; rw [hg]
theorem Z0t {j dj : Nat} {b c : Bool} (hg : o.guard = some (j, b)) (hj : (ops[j]?).bind (·.dst) = some dj) (he : a.eval (.tmp dj) = .bool c) : Region.wanted o (yielded ops a.tmps) = (c == b) := by
  have : a.tmps[dj]? = some (.bool c) := by
    rw [Z16, Array.getD_eq_getD_getElem?] at he
    cases hx : a.tmps[dj]? with
    | none => rw [hx] at he; cases he
    | some x => rw [hx] at he; exact congrArg some he
  unfold Region.wanted yielded
  simp [hg, hj, this]
theorem Z0h (hs : d < a.tmps.size) : (a.put (some d) v).eval (.tmp d) = v := by
  simp [Act.put, Z16, hs]
theorem opT_det (hd : o.dst = some d) (hs : d < a.tmps.size) (hr : R w w) (hw : Region.wanted o (yielded ops a.tmps) = true) (h : (execOp a.eval o).run P w = .ok (.value v) w) : opT P ops R o (det (R := R) d v).T a w := by
  refine .inl ⟨hw, ?_⟩
  unfold Yields
  rw [h]
  exact ⟨hr, by rw [hd]; exact Z0h hs⟩
theorem opT_skip (hd : o.dst = some d) (hs : d < a.tmps.size) (hw : Region.wanted o (yielded ops a.tmps) = false) : opT P ops R o (det (R := R) d undef).T a w :=
  .inr ⟨hw, by rw [hd]; exact Z0h hs⟩
theorem Z5x {f : FuncId} {args : Array Value} (hd : o.dst = some d) (hs : d < a.tmps.size) (hr : R w w) (hw : Region.wanted o (yielded ops a.tmps) = true) (h : (execOp a.eval o).run P w = .ok (.enter f args) w)
    (hc : Calls P f args w fun e w' => e = .returned v ∧ R w w') : opT P ops R o (det (R := R) d v).T a w := by
  refine .inl ⟨hw, ?_⟩
  unfold Yields
  rw [h]
  exact ⟨hr, hc.mono fun e w' ⟨he, hR⟩ => ⟨v, he, hR, by rw [hd]; exact Z0h hs⟩⟩
theorem opT_new {φ : Value → World → Prop} {hφ : ∀ v w w', R w w' → φ v w → φ v w'} (hd : o.dst = some d) (hs : d < a.tmps.size) (hw : Region.wanted o (yielded ops a.tmps) = true) (h : (execOp a.eval o).run P w = .ok (.value v) w') (hr : R w w') (hv : φ v w') :
    opT P ops R o (fresh (R := R) d φ hφ).T a w := by
  refine .inl ⟨hw, ?_⟩
  unfold Yields
  rw [h]
  exact ⟨hr, by rw [hd]; show φ ((a.put (some d) v).eval (.tmp d)) w'; rw [Z0h hs]; exact hv⟩
theorem Z7i {φ : Value → World → Prop} {hφ : ∀ v w w', R w w' → φ v w → φ v w'} {f : FuncId} {args : Array Value} (hd : o.dst = some d) (hs : d < a.tmps.size) (hr : R w w) (hw : Region.wanted o (yielded ops a.tmps) = true) (h : (execOp a.eval o).run P w = .ok (.enter f args) w)
    (hc : Calls P f args w fun e w' => ∃ v, e = .returned v ∧ R w w' ∧ φ v w') : opT P ops R o (fresh (R := R) d φ hφ).T a w := by
  refine .inl ⟨hw, ?_⟩
  unfold Yields
  rw [h]
  exact ⟨hr, hc.mono fun e w' ⟨v, he, hR, hv⟩ => ⟨v, he, hR, by rw [hd]; show φ ((a.put (some d) v).eval (.tmp d)) w'; rw [Z0h hs]; exact hv⟩⟩

theorem frame_eq {a0 a : Act} {D : List Tmp} (hE : Env a0 D a) (DV : List (Tmp × Value)) (hD : DV.map Prod.fst = D) (hv : ∀ p ∈ DV, a.eval (.tmp p.1) = p.2) : a = DV.foldl (fun x p => x.put (some p.1) p.2) a0 := by
  subst hD
  obtain ⟨h1, h2, h3⟩ := hE
  induction DV generalizing a0 with
  | nil =>
    obtain ⟨t, df⟩ := a
    obtain ⟨t0, df0⟩ := a0
    simp only at h1 h2
    subst h2
    have : t = t0 := Array.ext_getElem? (fun i => h3 i (by simp))
    rw [List.foldl_nil, this]
  | cons p DV ih =>
    rw [List.foldl_cons]
    refine ih (fun q hq => hv q (List.mem_cons_of_mem _ hq)) ?_ ?_ ?_
    · simpa [Act.put] using h1
    · simpa [Act.put] using h2
    · intro t ht
      by_cases hp : p.1 = t
      · have he := hv p (by simp)
        rw [Z16, Array.getD_eq_getD_getElem?] at he
        subst hp
        simp only [Act.put, Array.getElem?_setIfInBounds_self]
        by_cases hs : p.1 < a.tmps.size
        · rw [Array.getElem?_eq_getElem hs] at he ⊢
          rw [← h1, if_pos hs]
          exact congrArg some he
        · have hs0 : ¬ p.1 < a0.tmps.size := h1 ▸ hs
          rw [Array.getElem?_eq_none (xs := a.tmps) (Nat.le_of_not_lt hs), if_neg hs0]
      · rw [h3 t (by simp; exact ⟨fun e => hp e.symm, by simpa using ht⟩)]
        simp [Act.put, Array.getElem?_setIfInBounds_ne hp]

/-- The facts, one operation behind the other. -/
inductive Build (P : Program) (ops : Array Oper) (R : World → World → Prop) (w0 : World) (a0 : Act) (D : List Tmp) (A : List (List Nat)) (G : List (Nat × TFact R) → Prop) : Nat → List Oper → List (Nat × TFact R) → Prop
  | stop {k : Nat} {os : List Oper} {done : List (Nat × TFact R)} (h : G done) : Build P ops R w0 a0 D A G k os done
  | step {k : Nat} {o : Oper} {os : List Oper} {done : List (Nat × TFact R)} (S : TFact R) (h : ∀ a w, Env a0 D a → R w0 w → (∀ (i : Nat) (S' : TFact R), i ∈ A.getD k [] → (i, S') ∈ done → S'.T a w) → opT P ops R o S.T a w)
      (hr : Build P ops R w0 a0 D A G (k + 1) os ((k, S) :: done)) : Build P ops R w0 a0 D A G k (o :: os) done

variable {G : List (Nat × TFact R) → Prop} {k : Nat} {os : List Oper} {done : List (Nat × TFact R)} {Q : Exit → Act → World → Prop}
abbrev facts (done : List (Nat × TFact R)) : List (TFact R) := done.reverse.map Prod.snd
theorem Z15 (x : Nat × TFact R) (done : List (Nat × TFact R)) : facts (x :: done) = facts done ++ [x.2] := by simp [facts]
theorem Z0q (done : List (Nat × TFact R)) : (facts done).length = done.length := by simp [facts]
theorem Build.use (hb : Build P ops R w0 a0 D A G k os done) (hk : k = done.length) (hwf : ∀ (i : Nat) (S : TFact R), (i, S) ∈ done → (facts done)[i]? = some S) : ∃ fin : List (Nat × TFact R), G fin ∧ (∀ (i : Nat) (S : TFact R), (facts done)[i]? = some S → (facts fin)[i]? = some S) ∧
    (∀ (i : Nat) (S : TFact R), (i, S) ∈ fin → (facts fin)[i]? = some S) ∧ done.length ≤ fin.length ∧
    ∀ (i : Nat) (o : Oper) (S : TFact R), os[i]? = some o → (facts fin)[k + i]? = some S → ∀ a w, Env a0 D a → R w0 w → (∀ (j : Nat) (S' : TFact R), j ∈ A.getD (k + i) [] → (facts fin)[j]? = some S' → S'.T a w) → opT P ops R o S.T a w := by
  induction hb with
  | stop h =>
    rename_i k os done
    refine ⟨done, h, fun _ _ h => h, hwf, Nat.le_refl _, fun i o S _ hS => ?_⟩
    rw [List.getElem?_eq_none (by rw [Z0q]; omega)] at hS
    cases hS
  | step S h hr ih =>
    rename_i k o os done
    have hpre0 : ∀ (i : Nat) (S' : TFact R), (facts done)[i]? = some S' → (facts ((k, S) :: done))[i]? = some S' := fun i S' hi => by
      have hlt := (List.getElem?_eq_some_iff.1 hi).1
      rw [Z15, List.getElem?_append_left hlt]; exact hi
    obtain ⟨fin, hG, h1, hw, h2, h4⟩ := ih (by simp [hk]) (fun i S' hm => by
      rcases List.mem_cons.1 hm with he | hm
      · cases he
        rw [Z15, hk, ← Z0q done]
        simp
      · exact hpre0 i S' (hwf i S' hm))
    refine ⟨fin, hG, fun i S' hi => h1 i S' (hpre0 i S' hi), hw, by simp at h2; omega, ?_⟩
    intro i o' S' hi hS
    cases i with
    | zero =>
      simp at hi
      subst hi
      have : (facts fin)[k + 0]? = some S := h1 k S (by rw [Z15, hk, ← Z0q done]; simp)
      rw [this] at hS
      cases hS
      intro a w hE hR hF
      exact h a w hE hR (fun j S' hj hd => hF j S' hj (h1 j S' (hpre0 j S' (hwf j S' hd))))
    | succ i =>
      have := h4 i o' S' (by simpa using hi) (by rwa [show k + 1 + i = k + (i + 1) by omega])
      intro a w hE hR hF
      exact this a w hE hR (fun j S' hj hd => hF j S' (by rwa [show k + (i + 1) = k + 1 + i by omega]) hd)

/-- What is asked at the end of the facts. -/
def Fin (P : Program) (l : List Oper) (w0 : World) (a0 : Act) (D : List Tmp) (A : List (List Nat)) (Q : Exit → Act → World → Prop) (fin : List (Nat × TFact R)) : Prop :=
  okB l.toArray D A ((facts fin).map TFact.L) fin.length = true ∧
    ((fin.length = l.length ∧ ∀ a w, Env a0 D a → R w0 w → (∀ (i : Nat) (S : TFact R), (i, S) ∈ fin → S.T a w) → Q .normal a w) ∨
     ((decide (fin.length + 1 = l.length) && (List.range fin.length).all fun j => (A.getD fin.length []).contains j) = true ∧ ∃ o, l[fin.length]? = some o ∧ o.guard = none ∧
        ∀ a w, Env a0 D a → R w0 w → (∀ (i : Nat) (S : TFact R), (i, S) ∈ fin → S.T a w) → o.wp P a w (fun a w => Q .normal a w) Q))
theorem Z1s {id : Nat} {l : List Oper} {w : World} (A : List (List Nat)) (D : List Tmp) (hrr : ∀ x, R x x) (hrt : ∀ x y z, R x y → R y z → R x z) (hw0 : R w0 w.drew) (hf : P.follows .mixedOrders = true)
    (h : Build P l.toArray R w0 a0 D A (Fin P l w0 a0 D A Q) 0 l []) : (Code.region id l.toArray true).wp P Q a0 w := by
  obtain ⟨fin, ⟨hok, hG⟩, -, hw, -, hstep⟩ := h.use rfl (fun _ _ h => by cases h)
  have hlen := Z0q fin
  refine Z47 (facts fin) A D hf (by rw [hlen]; exact hok) ?_ hrr hrt hw0 (fun k o S h1 h2 a w hE hR hF => hstep k o S h1 (by simpa using h2) a w hE hR (by simpa using hF)) (fun a w hE hR hF => ?_)
  · rw [hlen]
    rcases hG with hG | hG
    · simp [hG.1]
    · rw [hG.1]; simp
  · rw [hlen]
    rcases hG with hG | hG
    · rw [if_pos hG.1]; exact hG.2 a w hE hR (fun i S hm => hF i S (hw i S hm))
    · obtain ⟨hl, o, ho, hg, hend⟩ := hG
      have hl : fin.length + 1 = l.length := by simp at hl; exact hl.1
      rw [if_neg (by omega)]
      unfold wpOp
      simp only [List.getElem?_toArray, ho]
      rw [if_pos (Z0b hg)]
      exact .inl (hend a w hE hR (fun i S hm => hF i S (hw i S hm)))

/-- An operation that leaves the world alone. -/
theorem Build.det (d : Tmp) {v : Value} (hrr : ∀ x, R x x) (hd : o.dst = some d) (hn : Nat.blt d a0.tmps.size = true) (hg : o.guard = none)
    (h : ∀ a w, Env a0 D a → R w0 w → (∀ (i : Nat) (S' : TFact R), i ∈ A.getD k [] → (i, S') ∈ done → S'.T a w) → (execOp a.eval o).run P w = .ok (.value v) w)
    (hr : Build P ops R w0 a0 D A G (k + 1) os ((k, Proofs.YtakkhglbdljfiaaGreatDoor.det d v) :: done)) : Build P ops R w0 a0 D A G k (o :: os) done :=
  .step _ (fun a w hE hR hF => opT_det hd (by rw [hE.size]; exact Nat.le_of_ble_eq_true hn) (hrr w) (Z0b hg) (h a w hE hR hF)) hr
/-- A guarded one that is wanted. -/
theorem Build.detg (d : Tmp) {v : Value} {j dj : Nat} {b : Bool} (hrr : ∀ x, R x x) (hd : o.dst = some d) (hn : Nat.blt d a0.tmps.size = true) (hg : o.guard = some (j, b)) (hj : (ops[j]?).bind (·.dst) = some dj)
    (h : ∀ a w, Env a0 D a → R w0 w → (∀ (i : Nat) (S' : TFact R), i ∈ A.getD k [] → (i, S') ∈ done → S'.T a w) → a.eval (.tmp dj) = .bool b ∧ (execOp a.eval o).run P w = .ok (.value v) w)
    (hr : Build P ops R w0 a0 D A G (k + 1) os ((k, Proofs.YtakkhglbdljfiaaGreatDoor.det d v) :: done)) : Build P ops R w0 a0 D A G k (o :: os) done :=
  .step _ (fun a w hE hR hF => opT_det hd (by rw [hE.size]; exact Nat.le_of_ble_eq_true hn) (hrr w) ((Z0t hg hj (h a w hE hR hF).1).trans (by simp)) (h a w hE hR hF).2) hr
/-- A guarded one that is not. -/
theorem Build.skip (d : Tmp) {j dj : Nat} {b : Bool} (hd : o.dst = some d) (hn : Nat.blt d a0.tmps.size = true) (hg : o.guard = some (j, b)) (hj : (ops[j]?).bind (·.dst) = some dj)
    (h : ∀ a w, Env a0 D a → R w0 w → (∀ (i : Nat) (S' : TFact R), i ∈ A.getD k [] → (i, S') ∈ done → S'.T a w) → a.eval (.tmp dj) = .bool (!b))
    (hr : Build P ops R w0 a0 D A G (k + 1) os ((k, Proofs.YtakkhglbdljfiaaGreatDoor.det d undef) :: done)) : Build P ops R w0 a0 D A G k (o :: os) done :=
  .step _ (fun a w hE hR hF => opT_skip hd (by rw [hE.size]; exact Nat.le_of_ble_eq_true hn) ((Z0t hg hj (h a w hE hR hF)).trans (by simp))) hr
/-- A call whose value is known. -/
theorem Build.call (d : Tmp) {v : Value} {f : FuncId} {args : Array Value} (hrr : ∀ x, R x x) (hd : o.dst = some d) (hn : Nat.blt d a0.tmps.size = true) (hg : o.guard = none)
    (h : ∀ a w, Env a0 D a → R w0 w → (∀ (i : Nat) (S' : TFact R), i ∈ A.getD k [] → (i, S') ∈ done → S'.T a w) → (execOp a.eval o).run P w = .ok (.enter f args) w)
    (hc : ∀ w, R w0 w → Calls P f args w fun e w' => e = .returned v ∧ R w w')
    (hr : Build P ops R w0 a0 D A G (k + 1) os ((k, Proofs.YtakkhglbdljfiaaGreatDoor.det d v) :: done)) : Build P ops R w0 a0 D A G k (o :: os) done :=
  .step _ (fun a w hE hR hF => Z5x hd (by rw [hE.size]; exact Nat.le_of_ble_eq_true hn) (hrr w) (Z0b hg) (h a w hE hR hF) (hc w hR)) hr
theorem Build.callg (d : Tmp) {v : Value} {f : FuncId} {args : Array Value} {j dj : Nat} {b : Bool} (hrr : ∀ x, R x x) (hd : o.dst = some d) (hn : Nat.blt d a0.tmps.size = true) (hg : o.guard = some (j, b)) (hj : (ops[j]?).bind (·.dst) = some dj)
    (h : ∀ a w, Env a0 D a → R w0 w → (∀ (i : Nat) (S' : TFact R), i ∈ A.getD k [] → (i, S') ∈ done → S'.T a w) → a.eval (.tmp dj) = .bool b ∧ (execOp a.eval o).run P w = .ok (.enter f args) w)
    (hc : ∀ w, R w0 w → Calls P f args w fun e w' => e = .returned v ∧ R w w')
    (hr : Build P ops R w0 a0 D A G (k + 1) os ((k, Proofs.YtakkhglbdljfiaaGreatDoor.det d v) :: done)) : Build P ops R w0 a0 D A G k (o :: os) done :=
  .step _ (fun a w hE hR hF => Z5x hd (by rw [hE.size]; exact Nat.le_of_ble_eq_true hn) (hrr w) ((Z0t hg hj (h a w hE hR hF).1).trans (by simp)) (h a w hE hR hF).2 (hc w hR)) hr
/-- One that makes something of its own. -/
theorem Build.new (d : Tmp) (φ : Value → World → Prop) (hφ : ∀ v w w', R w w' → φ v w → φ v w') (hd : o.dst = some d) (hn : Nat.blt d a0.tmps.size = true) (hg : o.guard = none)
    (h : ∀ a w, Env a0 D a → R w0 w → (∀ (i : Nat) (S' : TFact R), i ∈ A.getD k [] → (i, S') ∈ done → S'.T a w) → ∃ v w', (execOp a.eval o).run P w = .ok (.value v) w' ∧ R w w' ∧ φ v w')
    (hr : Build P ops R w0 a0 D A G (k + 1) os ((k, fresh d φ hφ) :: done)) : Build P ops R w0 a0 D A G k (o :: os) done :=
  .step _ (fun a w hE hR hF => by
    obtain ⟨v, w', h1, h2, h3⟩ := h a w hE hR hF
    exact opT_new hd (by rw [hE.size]; exact Nat.le_of_ble_eq_true hn) (Z0b hg) h1 h2 h3) hr
inductive AllEq (a : Act) : List (Tmp × Value) → Prop
  | nil : AllEq a []
  | cons {d : Tmp} {v : Value} {l : List (Tmp × Value)} (h : a.eval (.tmp d) = v) (hr : AllEq a l) : AllEq a ((d, v) :: l)
theorem AllEq.all {a : Act} {l : List (Tmp × Value)} (h : AllEq a l) : ∀ p ∈ l, a.eval (.tmp p.1) = p.2 := by
  induction h with
  | nil => intro p hp; cases hp
  | cons h hr ih =>
    intro p hp
    rcases List.mem_cons.1 hp with rfl | hp
    · exact h
    · exact ih p hp
theorem AllEq.frame {a0 a : Act} {D : List Tmp} {DV : List (Tmp × Value)} (h : AllEq a DV) (hE : Env a0 D a) (hD : DV.map Prod.fst = D) : a = DV.foldl (fun x p => x.put (some p.1) p.2) a0 := frame_eq hE DV hD h.all
theorem Z10 {K : Act → World → Prop} (h : (execOp a.eval o).run P w = .ok (.value v) w') (hk : K (a.put o.dst v) w') : o.wp P a w K Q := by unfold Oper.wp; rw [h]; exact hk
theorem Z2s {K : Act → World → Prop} {f : FuncId} {args : Array Value} {S : Ending → World → Prop} (h : (execOp a.eval o).run P w = .ok (.enter f args) w') (hc : Calls P f args w' S) (hk : ∀ e w'', S e w'' → ∃ v, e = .returned v ∧ K (a.put o.dst v) w'') : o.wp P a w K Q := by
  unfold Oper.wp
  rw [h]
  exact hc.mono fun e w'' hS => by obtain ⟨v, rfl, hK⟩ := hk e w'' hS; exact hK
theorem Z1e {K : Act → World → Prop} (h : (execOp a.eval o).run P w = .ok .skip w') (hk : K (a.put o.dst undef) w') : o.wp P a w K Q := by unfold Oper.wp; rw [h]; exact hk
end
end Go.Proofs.YtakkhglbdljfiaaGreatDoor

/- A region that draws its order and holds calls that write: an invariant of the world by what is done; each operation leaves a fact of its slot. No function of the program in sight. -/
namespace Go.Proofs.YtakkhglbdljfiaaGreatDoor
set_option linter.unusedVariables false
set_option linter.unusedSimpArgs false
open Go.RowKit

/-- No relation of worlds. -/
abbrev Any2 : World → World → Prop := fun _ _ => True
def upd (l : Nat → Bool) (k : Nat) : Nat → Bool := fun i => if i = k then true else l i

def YieldsI (P : Program) (J : World → Prop) (o : Oper) (T : Act → World → Prop) (a : Act) (w : World) : Prop :=
  match (execOp a.eval o).run P w with
  | .ok (.value v) w' => J w' ∧ T (a.put o.dst v) w'
  | .ok .skip w' => J w' ∧ T (a.put o.dst undef) w'
  | .ok (.enter f args) w' => Calls P f args w' (fun e w'' => ∃ v, e = .returned v ∧ J w'' ∧ T (a.put o.dst v) w'')
  | _ => False
def opI (P : Program) (ops : Array Oper) (J : World → Prop) (o : Oper) (T : Act → World → Prop) (a : Act) (w : World) : Prop :=
  (Region.wanted o (yielded ops a.tmps) = true ∧ YieldsI P J o T a w) ∨ (Region.wanted o (yielded ops a.tmps) = false ∧ J w ∧ T (a.put o.dst undef) w)

section
variable {P : Program} {ops : Array Oper} {I : (Nat → Bool) → World → Prop} {a0 : Act} {D : List Tmp} {A : List (List Nat)} {Fs : List (TFact Any2)} {m : Nat} {Q : Exit → Act → World → Prop}

structure PInv (ops : Array Oper) (I : (Nat → Bool) → World → Prop) (a0 : Act) (D : List Tmp) (Fs : List (TFact Any2)) (m : Nat) (listed : Array Bool) (a : Act) (w : World) : Prop where
  sz : listed.size = ops.size
  env : Env a0 D a
  inv : I (fun i => listed.getD i false) w
  closed : ∀ j o, listed.getD j false = true → ops[j]? = some o → ∀ e ∈ o.after, Region.binds .any e = true → listed.getD e.on false = true
  typed : ∀ i S, listed.getD i false = true → Fs[i]? = some S → S.T a w
  un : ∀ i, m ≤ i → listed.getD i false = false

theorem Z3g {listed : Array Bool} {i : Nat} (h : i < listed.size) : (fun j => (listed.setIfInBounds i true).getD j false) = upd (fun j => listed.getD j false) i := by
  funext j
  unfold upd
  by_cases hj : j = i
  · subst hj; rw [if_pos rfl]; exact Z14 h _
  · rw [if_neg hj]; exact getD_set_ne false (fun e => hj e.symm)

inductive BuildI (P : Program) (ops : Array Oper) (I : (Nat → Bool) → World → Prop) (a0 : Act) (D : List Tmp) (A : List (List Nat)) (G : List (Nat × TFact Any2) → Prop) : Nat → List Oper → List (Nat × TFact Any2) → Prop
  | stop {k : Nat} {os : List Oper} {done : List (Nat × TFact Any2)} (h : G done) : BuildI P ops I a0 D A G k os done
  | step {k : Nat} {o : Oper} {os : List Oper} {done : List (Nat × TFact Any2)} (S : TFact Any2) (h : ∀ l a w, Env a0 D a → I l w → l k = false → (∀ i ∈ A.getD k [], l i = true) → (∀ (i : Nat) (S' : TFact Any2), i ∈ A.getD k [] → (i, S') ∈ done → S'.T a w) → opI P ops (I (upd l k)) o S.T a w)
      (hr : BuildI P ops I a0 D A G (k + 1) os ((k, S) :: done)) : BuildI P ops I a0 D A G k (o :: os) done

variable {G : List (Nat × TFact Any2) → Prop} {k : Nat} {o : Oper} {os : List Oper} {done : List (Nat × TFact Any2)} {d : Tmp} {v : Value}
theorem BuildI.use (hb : BuildI P ops I a0 D A G k os done) (hk : k = done.length) (hwf : ∀ (i : Nat) (S : TFact Any2), (i, S) ∈ done → (facts done)[i]? = some S) : ∃ fin : List (Nat × TFact Any2), G fin ∧ (∀ (i : Nat) (S : TFact Any2), (facts done)[i]? = some S → (facts fin)[i]? = some S) ∧
    (∀ (i : Nat) (S : TFact Any2), (i, S) ∈ fin → (facts fin)[i]? = some S) ∧ done.length ≤ fin.length ∧
    ∀ (i : Nat) (o : Oper) (S : TFact Any2), os[i]? = some o → (facts fin)[k + i]? = some S → ∀ l a w, Env a0 D a → I l w → l (k + i) = false → (∀ j ∈ A.getD (k + i) [], l j = true) → (∀ (j : Nat) (S' : TFact Any2), j ∈ A.getD (k + i) [] → (facts fin)[j]? = some S' → S'.T a w) → opI P ops (I (upd l (k + i))) o S.T a w := by
  induction hb with
  | stop h =>
    rename_i k os done
    refine ⟨done, h, fun _ _ h => h, hwf, Nat.le_refl _, fun i o S _ hS => ?_⟩
    rw [List.getElem?_eq_none (by rw [Z0q]; omega)] at hS
    cases hS
  | step S h hr ih =>
    rename_i k o os done
    have hpre0 : ∀ (i : Nat) (S' : TFact Any2), (facts done)[i]? = some S' → (facts ((k, S) :: done))[i]? = some S' := fun i S' hi => by
      have hlt := (List.getElem?_eq_some_iff.1 hi).1
      rw [Z15, List.getElem?_append_left hlt]; exact hi
    obtain ⟨fin, hG, h1, hw, h2, h4⟩ := ih (by simp [hk]) (fun i S' hm => by
      rcases List.mem_cons.1 hm with he | hm
      · cases he
        rw [Z15, hk, ← Z0q done]
        simp
      · exact hpre0 i S' (hwf i S' hm))
    refine ⟨fin, hG, fun i S' hi => h1 i S' (hpre0 i S' hi), hw, by simp at h2; omega, ?_⟩
    intro i o' S' hi hS
    cases i with
    | zero =>
      simp at hi
      subst hi
      have : (facts fin)[k + 0]? = some S := h1 k S (by rw [Z15, hk, ← Z0q done]; simp)
      rw [this] at hS
      cases hS
      intro l a w hE hR hl hA hF
      exact h l a w hE hR hl hA (fun j S' hj hd => hF j S' hj (h1 j S' (hpre0 j S' (hwf j S' hd))))
    | succ i =>
      have := h4 i o' S' (by simpa using hi) (by rwa [show k + 1 + i = k + (i + 1) by omega])
      intro l a w hE hR hl hA hF
      rw [show k + (i + 1) = k + 1 + i by omega] at hl hA ⊢
      exact this l a w hE hR hl hA (fun j S' hj hd => hF j S' (by rwa [show k + (i + 1) = k + 1 + i by omega]) hd)


theorem BuildI.det (d : Tmp) {v : Value} (hI : ∀ l w, I l w → I (upd l k) w) (hd : o.dst = some d) (hn : Nat.blt d a0.tmps.size = true) (hg : o.guard = none)
    (h : ∀ l a w, Env a0 D a → I l w → (∀ (i : Nat) (S' : TFact Any2), i ∈ A.getD k [] → (i, S') ∈ done → S'.T a w) → (execOp a.eval o).run P w = .ok (.value v) w)
    (hr : BuildI P ops I a0 D A G (k + 1) os ((k, Proofs.YtakkhglbdljfiaaGreatDoor.det d v) :: done)) : BuildI P ops I a0 D A G k (o :: os) done :=
  .step _ (fun l a w hE hR _ _ hF => .inl ⟨Z0b hg, by
    unfold YieldsI
    rw [h l a w hE hR hF]
    exact ⟨hI l w hR, by rw [hd]; exact Z0h (by rw [hE.size]; exact Nat.le_of_ble_eq_true hn)⟩⟩) hr
/-- A call; its law may ask what is done. -/
theorem BuildI.call (d : Tmp) {v : Value} {f : FuncId} {args : Array Value} (hd : o.dst = some d) (hn : Nat.blt d a0.tmps.size = true) (hg : o.guard = none)
    (h : ∀ l a w, Env a0 D a → I l w → (∀ (i : Nat) (S' : TFact Any2), i ∈ A.getD k [] → (i, S') ∈ done → S'.T a w) → (execOp a.eval o).run P w = .ok (.enter f args) w)
    (hc : ∀ l w, I l w → l k = false → (∀ i ∈ A.getD k [], l i = true) → Calls P f args w fun e w' => e = .returned v ∧ I (upd l k) w')
    (hr : BuildI P ops I a0 D A G (k + 1) os ((k, Proofs.YtakkhglbdljfiaaGreatDoor.det d v) :: done)) : BuildI P ops I a0 D A G k (o :: os) done :=
  .step _ (fun l a w hE hR hl hA hF => .inl ⟨Z0b hg, by
    unfold YieldsI
    rw [h l a w hE hR hF]
    exact (hc l w hR hl hA).mono fun e w' ⟨he, hI⟩ => ⟨v, he, hI, by rw [hd]; exact Z0h (by rw [hE.size]; exact Nat.le_of_ble_eq_true hn)⟩⟩) hr
end
end Go.Proofs.YtakkhglbdljfiaaGreatDoor
