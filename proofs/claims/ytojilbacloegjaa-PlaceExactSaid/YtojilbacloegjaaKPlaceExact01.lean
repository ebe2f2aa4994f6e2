/- Regions by facts: the facts in use and the laws of single operations. -/
import Derived.Test.YtojilbacloegjaaKPlaceExact00
import Derived.BigQuiet
import Derived.Lib.FrozenHead2
namespace Go.Proofs.Ytojilbacloegjaa
set_option linter.unusedVariables false
set_option linter.unusedSimpArgs false
open Go.RowKit

/-- What was there is as it was. -/
abbrev Ext (w w' : World) : Prop := Below w.heap.size w w'
theorem Ext.refl (w : World) : Ext w w := Below.refl _ _
theorem Ext.trans {x y z : World} (h : Ext x y) (k : Ext y z) : Ext x z := Below.trans h (Below.mono k h.size)
theorem Ext.drew (w : World) : Ext w w.drew := (Below.refl _ w).drew
theorem Ext.alloc (w : World) (o : Obj) : Ext w (w.alloc o) := (Below.refl _ w).alloc (Nat.le_refl _) o
theorem ext_of_same {w w' : World} (h : w = w') : Ext w w' := h ▸ Ext.refl w
theorem Blk.ext {w w' : World} {g : Nat} {t : TypeId} {cs : Array Value} (h : Blk w g t cs) (k : Ext w w') : Blk w' g t cs := h.below k h.lt

section
variable {R : World → World → Prop}
theorem eval_tmp (a : Act) (t : Tmp) : a.eval (.tmp t) = a.tmps.getD t undef := rfl
theorem ev {a : Act} {t : Tmp} {v : Value} (h : a.eval (.tmp t) = v) : a.tmps[t]?.getD undef = v := by rw [← h, eval_tmp, Array.getD_eq_getD_getElem?]
theorem eval_of_same {a a' : Act} {t : Tmp} (h : a.tmps[t]? = a'.tmps[t]?) : a.eval (.tmp t) = a'.eval (.tmp t) := by
  simp only [eval_tmp, Array.getD_eq_getD_getElem?, h]
/-- The slot holds this value. -/
def det (d : Tmp) (v : Value) : TFact R := ⟨[d], fun a _ => a.eval (.tmp d) = v, fun a a' _ h e => (eval_of_same (h d (by simp))).symm.trans e, fun _ _ _ _ e => e⟩
/-- The slot holds a value of which this holds. -/
def fresh (d : Tmp) (φ : Value → World → Prop) (hφ : ∀ v w w', R w w' → φ v w → φ v w') : TFact R := ⟨[d], fun a w => φ (a.eval (.tmp d)) w, fun a a' w h e => by rw [← eval_of_same (h d (by simp))]; exact e, fun a w w' hR e => hφ _ _ _ hR e⟩
/-- No fact. -/
def nofact : TFact R := ⟨[], fun _ _ => True, fun _ _ _ _ _ => trivial, fun _ _ _ _ _ => trivial⟩

variable {P : Program} {ops : Array Oper} {w0 : World} {a0 : Act} {D : List Tmp} {A : List (List Nat)} {Fs : List (TFact R)}
theorem Env.eval {a : Act} (h : Env a0 D a) (t : Tmp) {v : Value} (ht : D.contains t = false) (hv : a0.eval (.tmp t) = v) : a.eval (.tmp t) = v :=
  (eval_of_same (h.keep t (by simpa using ht))).trans hv

variable {o : Oper} {a : Act} {w w' : World} {d : Tmp} {v : Value}
theorem wanted_none (hg : o.guard = none) : Region.wanted o (yielded ops a.tmps) = true := by unfold Region.wanted; rw [hg]
theorem wanted_some {j dj : Nat} {b c : Bool} (hg : o.guard = some (j, b)) (hj : (ops[j]?).bind (·.dst) = some dj) (he : a.eval (.tmp dj) = .bool c) : Region.wanted o (yielded ops a.tmps) = (c == b) := by
  have : a.tmps[dj]? = some (.bool c) := by
    rw [eval_tmp, Array.getD_eq_getD_getElem?] at he
    cases hx : a.tmps[dj]? with
    | none => rw [hx] at he; cases he
    | some x => rw [hx] at he; exact congrArg some he
  unfold Region.wanted yielded
  simp [hg, hj, this]
theorem eval_put (hs : d < a.tmps.size) : (a.put (some d) v).eval (.tmp d) = v := by
  simp [Act.put, eval_tmp, hs]
theorem opT_det (hd : o.dst = some d) (hs : d < a.tmps.size) (hr : R w w) (hw : Region.wanted o (yielded ops a.tmps) = true) (h : (execOp a.eval o).run P w = .ok (.value v) w) : opT P ops R o (det (R := R) d v).T a w := by
  refine .inl ⟨hw, ?_⟩
  unfold Yields
  rw [h]
  exact ⟨hr, by rw [hd]; exact eval_put hs⟩
theorem opT_skip (hd : o.dst = some d) (hs : d < a.tmps.size) (hw : Region.wanted o (yielded ops a.tmps) = false) : opT P ops R o (det (R := R) d undef).T a w :=
  .inr ⟨hw, by rw [hd]; exact eval_put hs⟩
theorem opT_call {f : FuncId} {args : Array Value} (hd : o.dst = some d) (hs : d < a.tmps.size) (hr : R w w) (hw : Region.wanted o (yielded ops a.tmps) = true) (h : (execOp a.eval o).run P w = .ok (.enter f args) w)
    (hc : Calls P f args w fun e w' => e = .returned v ∧ R w w') : opT P ops R o (det (R := R) d v).T a w := by
  refine .inl ⟨hw, ?_⟩
  unfold Yields
  rw [h]
  exact ⟨hr, hc.mono fun e w' ⟨he, hR⟩ => ⟨v, he, hR, by rw [hd]; exact eval_put hs⟩⟩
theorem opT_new {φ : Value → World → Prop} {hφ : ∀ v w w', R w w' → φ v w → φ v w'} (hd : o.dst = some d) (hs : d < a.tmps.size) (hw : Region.wanted o (yielded ops a.tmps) = true) (h : (execOp a.eval o).run P w = .ok (.value v) w') (hr : R w w') (hv : φ v w') :
    opT P ops R o (fresh (R := R) d φ hφ).T a w := by
  refine .inl ⟨hw, ?_⟩
  unfold Yields
  rw [h]
  exact ⟨hr, by rw [hd]; show φ ((a.put (some d) v).eval (.tmp d)) w'; rw [eval_put hs]; exact hv⟩
theorem opT_callnew {φ : Value → World → Prop} {hφ : ∀ v w w', R w w' → φ v w → φ v w'} {f : FuncId} {args : Array Value} (hd : o.dst = some d) (hs : d < a.tmps.size) (hr : R w w) (hw : Region.wanted o (yielded ops a.tmps) = true) (h : (execOp a.eval o).run P w = .ok (.enter f args) w)
    (hc : Calls P f args w fun e w' => ∃ v, e = .returned v ∧ R w w' ∧ φ v w') : opT P ops R o (fresh (R := R) d φ hφ).T a w := by
  refine .inl ⟨hw, ?_⟩
  unfold Yields
  rw [h]
  exact ⟨hr, hc.mono fun e w' ⟨v, he, hR, hv⟩ => ⟨v, he, hR, by rw [hd]; show φ ((a.put (some d) v).eval (.tmp d)) w'; rw [eval_put hs]; exact hv⟩⟩

theorem frame_eq {a0 a : Act} {D : List Tmp} (hE : Env a0 D a) (DV : List (Tmp × Value)) (hD : DV.map Prod.fst = D) (hv : ∀ p ∈ DV, a.eval (.tmp p.1) = p.2) : a = DV.foldl (fun x p => x.put (some p.1) p.2) a0 := by
  subst hD
  obtain ⟨h1, h2, h3⟩ := hE
  induction DV generalizing a0 with
  | nil =>
    obtain ⟨t, df⟩ := a
    obtain ⟨t0, df0⟩ := a0
    simp only at h1 h2
    subst h2
    have : t = t0 := Array.ext_getElem? (fun i => h3 i (by simp))
    rw [List.foldl_nil, this]
  | cons p DV ih =>
    rw [List.foldl_cons]
    refine ih (fun q hq => hv q (List.mem_cons_of_mem _ hq)) ?_ ?_ ?_
    · simpa [Act.put] using h1
    · simpa [Act.put] using h2
    · intro t ht
      by_cases hp : p.1 = t
      · have he := hv p (by simp)
        rw [eval_tmp, Array.getD_eq_getD_getElem?] at he
        subst hp
        simp only [Act.put, Array.getElem?_setIfInBounds_self]
        by_cases hs : p.1 < a.tmps.size
        · rw [Array.getElem?_eq_getElem hs] at he ⊢
          rw [← h1, if_pos hs]
          exact congrArg some he
        · have hs0 : ¬ p.1 < a0.tmps.size := h1 ▸ hs
          rw [Array.getElem?_eq_none (xs := a.tmps) (Nat.le_of_not_lt hs), if_neg hs0]
      · rw [h3 t (by simp; exact ⟨fun e => hp e.symm, by simpa using ht⟩)]
        simp [Act.put, Array.getElem?_setIfInBounds_ne hp]

/-- The facts, one operation behind the other. -/
inductive Build (P : Program) (ops : Array Oper) (R : World → World → Prop) (w0 : World) (a0 : Act) (D : List Tmp) (A : List (List Nat)) (G : List (Nat × TFact R) → Prop) : Nat → List Oper → List (Nat × TFact R) → Prop
  | stop {k : Nat} {os : List Oper} {done : List (Nat × TFact R)} (h : G done) : Build P ops R w0 a0 D A G k os done
  | step {k : Nat} {o : Oper} {os : List Oper} {done : List (Nat × TFact R)} (S : TFact R) (h : ∀ a w, Env a0 D a → R w0 w → (∀ (i : Nat) (S' : TFact R), i ∈ A.getD k [] → (i, S') ∈ done → S'.T a w) → opT P ops R o S.T a w)
      (hr : Build P ops R w0 a0 D A G (k + 1) os ((k, S) :: done)) : Build P ops R w0 a0 D A G k (o :: os) done

variable {G : List (Nat × TFact R) → Prop} {k : Nat} {os : List Oper} {done : List (Nat × TFact R)} {Q : Exit → Act → World → Prop}
abbrev facts (done : List (Nat × TFact R)) : List (TFact R) := done.reverse.map Prod.snd
theorem facts_cons (x : Nat × TFact R) (done : List (Nat × TFact R)) : facts (x :: done) = facts done ++ [x.2] := by simp [facts]
theorem facts_length (done : List (Nat × TFact R)) : (facts done).length = done.length := by simp [facts]
theorem Build.use (hb : Build P ops R w0 a0 D A G k os done) (hk : k = done.length) (hwf : ∀ (i : Nat) (S : TFact R), (i, S) ∈ done → (facts done)[i]? = some S) : ∃ fin : List (Nat × TFact R), G fin ∧ (∀ (i : Nat) (S : TFact R), (facts done)[i]? = some S → (facts fin)[i]? = some S) ∧
    (∀ (i : Nat) (S : TFact R), (i, S) ∈ fin → (facts fin)[i]? = some S) ∧ done.length ≤ fin.length ∧
    ∀ (i : Nat) (o : Oper) (S : TFact R), os[i]? = some o → (facts fin)[k + i]? = some S → ∀ a w, Env a0 D a → R w0 w → (∀ (j : Nat) (S' : TFact R), j ∈ A.getD (k + i) [] → (facts fin)[j]? = some S' → S'.T a w) → opT P ops R o S.T a w := by
  induction hb with
  | stop h =>
    rename_i k os done
    refine ⟨done, h, fun _ _ h => h, hwf, Nat.le_refl _, fun i o S _ hS => ?_⟩
    rw [List.getElem?_eq_none (by rw [facts_length]; omega)] at hS
    cases hS
  | step S h hr ih =>
    rename_i k o os done
    have hpre0 : ∀ (i : Nat) (S' : TFact R), (facts done)[i]? = some S' → (facts ((k, S) :: done))[i]? = some S' := fun i S' hi => by
      have hlt := (List.getElem?_eq_some_iff.1 hi).1
      rw [facts_cons, List.getElem?_append_left hlt]; exact hi
    obtain ⟨fin, hG, h1, hw, h2, h4⟩ := ih (by simp [hk]) (fun i S' hm => by
      rcases List.mem_cons.1 hm with he | hm
      · cases he
        rw [facts_cons, hk, ← facts_length done]
        simp
      · exact hpre0 i S' (hwf i S' hm))
    refine ⟨fin, hG, fun i S' hi => h1 i S' (hpre0 i S' hi), hw, by simp at h2; omega, ?_⟩
    intro i o' S' hi hS
    cases i with
    | zero =>
      simp at hi
      subst hi
      have : (facts fin)[k + 0]? = some S := h1 k S (by rw [facts_cons, hk, ← facts_length done]; simp)
      rw [this] at hS
      cases hS
      intro a w hE hR hF
      exact h a w hE hR (fun j S' hj hd => hF j S' hj (h1 j S' (hpre0 j S' (hwf j S' hd))))
    | succ i =>
      have := h4 i o' S' (by simpa using hi) (by rwa [show k + 1 + i = k + (i + 1) by omega])
      intro a w hE hR hF
      exact this a w hE hR (fun j S' hj hd => hF j S' (by rwa [show k + (i + 1) = k + 1 + i by omega]) hd)

/-- What is asked at the end of the facts. -/
def Fin (P : Program) (l : List Oper) (w0 : World) (a0 : Act) (D : List Tmp) (A : List (List Nat)) (Q : Exit → Act → World → Prop) (fin : List (Nat × TFact R)) : Prop :=
  okB l.toArray D A ((facts fin).map TFact.L) fin.length = true ∧
    ((fin.length = l.length ∧ ∀ a w, Env a0 D a → R w0 w → (∀ (i : Nat) (S : TFact R), (i, S) ∈ fin → S.T a w) → Q .normal a w) ∨
     ((decide (fin.length + 1 = l.length) && (List.range fin.length).all fun j => (A.getD fin.length []).contains j) = true ∧ ∃ o, l[fin.length]? = some o ∧ o.guard = none ∧
        ∀ a w, Env a0 D a → R w0 w → (∀ (i : Nat) (S : TFact R), (i, S) ∈ fin → S.T a w) → o.wp P a w (fun a w => Q .normal a w) Q))
theorem wp_typed {id : Nat} {l : List Oper} {w : World} (A : List (List Nat)) (D : List Tmp) (hrr : ∀ x, R x x) (hrt : ∀ x y z, R x y → R y z → R x z) (hw0 : R w0 w.drew) (hf : P.follows .mixedOrders = true)
    (h : Build P l.toArray R w0 a0 D A (Fin P l w0 a0 D A Q) 0 l []) : (Code.region id l.toArray true).wp P Q a0 w := by
  obtain ⟨fin, ⟨hok, hG⟩, -, hw, -, hstep⟩ := h.use rfl (fun _ _ h => by cases h)
  have hlen := facts_length fin
  refine wp_region_typed (facts fin) A D hf (by rw [hlen]; exact hok) ?_ hrr hrt hw0 (fun k o S h1 h2 a w hE hR hF => hstep k o S h1 (by simpa using h2) a w hE hR (by simpa using hF)) (fun a w hE hR hF => ?_)
  · rw [hlen]
    rcases hG with hG | hG
    · simp [hG.1]
    · rw [hG.1]; simp
  · rw [hlen]
    rcases hG with hG | hG
    · rw [if_pos hG.1]; exact hG.2 a w hE hR (fun i S hm => hF i S (hw i S hm))
    · obtain ⟨hl, o, ho, hg, hend⟩ := hG
      have hl : fin.length + 1 = l.length := by simp at hl; exact hl.1
      rw [if_neg (by omega)]
      unfold wpOp
      simp only [List.getElem?_toArray, ho]
      rw [if_pos (wanted_none hg)]
      exact .inl (hend a w hE hR (fun i S hm => hF i S (hw i S hm)))

/-- An operation that leaves the world alone. -/
theorem Build.det (d : Tmp) {v : Value} (hrr : ∀ x, R x x) (hd : o.dst = some d) (hn : Nat.blt d a0.tmps.size = true) (hg : o.guard = none)
    (h : ∀ a w, Env a0 D a → R w0 w → (∀ (i : Nat) (S' : TFact R), i ∈ A.getD k [] → (i, S') ∈ done → S'.T a w) → (execOp a.eval o).run P w = .ok (.value v) w)
    (hr : Build P ops R w0 a0 D A G (k + 1) os ((k, Proofs.Ytojilbacloegjaa.det d v) :: done)) : Build P ops R w0 a0 D A G k (o :: os) done :=
  .step _ (fun a w hE hR hF => opT_det hd (by rw [hE.size]; exact Nat.le_of_ble_eq_true hn) (hrr w) (wanted_none hg) (h a w hE hR hF)) hr
/-- A guarded one that is wanted. -/
theorem Build.detg (d : Tmp) {v : Value} {j dj : Nat} {b : Bool} (hrr : ∀ x, R x x) (hd : o.dst = some d) (hn : Nat.blt d a0.tmps.size = true) (hg : o.guard = some (j, b)) (hj : (ops[j]?).bind (·.dst) = some dj)
    (h : ∀ a w, Env a0 D a → R w0 w → (∀ (i : Nat) (S' : TFact R), i ∈ A.getD k [] → (i, S') ∈ done → S'.T a w) → a.eval (.tmp dj) = .bool b ∧ (execOp a.eval o).run P w = .ok (.value v) w)
    (hr : Build P ops R w0 a0 D A G (k + 1) os ((k, Proofs.Ytojilbacloegjaa.det d v) :: done)) : Build P ops R w0 a0 D A G k (o :: os) done :=
  .step _ (fun a w hE hR hF => opT_det hd (by rw [hE.size]; exact Nat.le_of_ble_eq_true hn) (hrr w) ((wanted_some hg hj (h a w hE hR hF).1).trans (by simp)) (h a w hE hR hF).2) hr
/-- A guarded one that is not. -/
theorem Build.skip (d : Tmp) {j dj : Nat} {b : Bool} (hd : o.dst = some d) (hn : Nat.blt d a0.tmps.size = true) (hg : o.guard = some (j, b)) (hj : (ops[j]?).bind (·.dst) = some dj)
    (h : ∀ a w, Env a0 D a → R w0 w → (∀ (i : Nat) (S' : TFact R), i ∈ A.getD k [] → (i, S') ∈ done → S'.T a w) → a.eval (.tmp dj) = .bool (!b))
    (hr : Build P ops R w0 a0 D A G (k + 1) os ((k, Proofs.Ytojilbacloegjaa.det d undef) :: done)) : Build P ops R w0 a0 D A G k (o :: os) done :=
  .step _ (fun a w hE hR hF => opT_skip hd (by rw [hE.size]; exact Nat.le_of_ble_eq_true hn) ((wanted_some hg hj (h a w hE hR hF)).trans (by simp))) hr
/-- A call whose value is known. -/
theorem Build.call (d : Tmp) {v : Value} {f : FuncId} {args : Array Value} (hrr : ∀ x, R x x) (hd : o.dst = some d) (hn : Nat.blt d a0.tmps.size = true) (hg : o.guard = none)
    (h : ∀ a w, Env a0 D a → R w0 w → (∀ (i : Nat) (S' : TFact R), i ∈ A.getD k [] → (i, S') ∈ done → S'.T a w) → (execOp a.eval o).run P w = .ok (.enter f args) w)
    (hc : ∀ w, R w0 w → Calls P f args w fun e w' => e = .returned v ∧ R w w')
    (hr : Build P ops R w0 a0 D A G (k + 1) os ((k, Proofs.Ytojilbacloegjaa.det d v) :: done)) : Build P ops R w0 a0 D A G k (o :: os) done :=
  .step _ (fun a w hE hR hF => opT_call hd (by rw [hE.size]; exact Nat.le_of_ble_eq_true hn) (hrr w) (wanted_none hg) (h a w hE hR hF) (hc w hR)) hr
theorem Build.callg (d : Tmp) {v : Value} {f : FuncId} {args : Array Value} {j dj : Nat} {b : Bool} (hrr : ∀ x, R x x) (hd : o.dst = some d) (hn : Nat.blt d a0.tmps.size = true) (hg : o.guard = some (j, b)) (hj : (ops[j]?).bind (·.dst) = some dj)
    (h : ∀ a w, Env a0 D a → R w0 w → (∀ (i : Nat) (S' : TFact R), i ∈ A.getD k [] → (i, S') ∈ done → S'.T a w) → a.eval (.tmp dj) = .bool b ∧ (execOp a.eval o).run P w = .ok (.enter f args) w)
    (hc : ∀ w, R w0 w → Calls P f args w fun e w' => e = .returned v ∧ R w w')
    (hr : Build P ops R w0 a0 D A G (k + 1) os ((k, Proofs.Ytojilbacloegjaa.det d v) :: done)) : Build P ops R w0 a0 D A G k (o :: os) done :=
  .step _ (fun a w hE hR hF => opT_call hd (by rw [hE.size]; exact Nat.le_of_ble_eq_true hn) (hrr w) ((wanted_some hg hj (h a w hE hR hF).1).trans (by simp)) (h a w hE hR hF).2 (hc w hR)) hr
/-- One that makes something of its own. -/
theorem Build.new (d : Tmp) (φ : Value → World → Prop) (hφ : ∀ v w w', R w w' → φ v w → φ v w') (hd : o.dst = some d) (hn : Nat.blt d a0.tmps.size = true) (hg : o.guard = none)
    (h : ∀ a w, Env a0 D a → R w0 w → (∀ (i : Nat) (S' : TFact R), i ∈ A.getD k [] → (i, S') ∈ done → S'.T a w) → ∃ v w', (execOp a.eval o).run P w = .ok (.value v) w' ∧ R w w' ∧ φ v w')
    (hr : Build P ops R w0 a0 D A G (k + 1) os ((k, fresh d φ hφ) :: done)) : Build P ops R w0 a0 D A G k (o :: os) done :=
  .step _ (fun a w hE hR hF => by
    obtain ⟨v, w', h1, h2, h3⟩ := h a w hE hR hF
    exact opT_new hd (by rw [hE.size]; exact Nat.le_of_ble_eq_true hn) (wanted_none hg) h1 h2 h3) hr
theorem Build.callnew (d : Tmp) (φ : Value → World → Prop) (hφ : ∀ v w w', R w w' → φ v w → φ v w') {f : FuncId} {args : Array Value} (hrr : ∀ x, R x x) (hd : o.dst = some d) (hn : Nat.blt d a0.tmps.size = true) (hg : o.guard = none)
    (h : ∀ a w, Env a0 D a → R w0 w → (∀ (i : Nat) (S' : TFact R), i ∈ A.getD k [] → (i, S') ∈ done → S'.T a w) → (execOp a.eval o).run P w = .ok (.enter f args) w)
    (hc : ∀ w, R w0 w → Calls P f args w fun e w' => ∃ v, e = .returned v ∧ R w w' ∧ φ v w')
    (hr : Build P ops R w0 a0 D A G (k + 1) os ((k, fresh d φ hφ) :: done)) : Build P ops R w0 a0 D A G k (o :: os) done :=
  .step _ (fun a w hE hR hF => opT_callnew hd (by rw [hE.size]; exact Nat.le_of_ble_eq_true hn) (hrr w) (wanted_none hg) (h a w hE hR hF) (hc w hR)) hr

inductive AllEq (a : Act) : List (Tmp × Value) → Prop
  | nil : AllEq a []
  | cons {d : Tmp} {v : Value} {l : List (Tmp × Value)} (h : a.eval (.tmp d) = v) (hr : AllEq a l) : AllEq a ((d, v) :: l)
theorem AllEq.all {a : Act} {l : List (Tmp × Value)} (h : AllEq a l) : ∀ p ∈ l, a.eval (.tmp p.1) = p.2 := by
  induction h with
  | nil => intro p hp; cases hp
  | cons h hr ih =>
    intro p hp
    rcases List.mem_cons.1 hp with rfl | hp
    · exact h
    · exact ih p hp
theorem AllEq.frame {a0 a : Act} {D : List Tmp} {DV : List (Tmp × Value)} (h : AllEq a DV) (hE : Env a0 D a) (hD : DV.map Prod.fst = D) : a = DV.foldl (fun x p => x.put (some p.1) p.2) a0 := frame_eq hE DV hD h.all
theorem wp_of_value {K : Act → World → Prop} (h : (execOp a.eval o).run P w = .ok (.value v) w') (hk : K (a.put o.dst v) w') : o.wp P a w K Q := by unfold Oper.wp; rw [h]; exact hk
theorem wp_of_enter {K : Act → World → Prop} {f : FuncId} {args : Array Value} {S : Ending → World → Prop} (h : (execOp a.eval o).run P w = .ok (.enter f args) w') (hc : Calls P f args w' S) (hk : ∀ e w'', S e w'' → ∃ v, e = .returned v ∧ K (a.put o.dst v) w'') : o.wp P a w K Q := by
  unfold Oper.wp
  rw [h]
  exact hc.mono fun e w'' hS => by obtain ⟨v, rfl, hK⟩ := hk e w'' hS; exact hK
theorem wp_of_skip {K : Act → World → Prop} (h : (execOp a.eval o).run P w = .ok .skip w') (hk : K (a.put o.dst undef) w') : o.wp P a w K Q := by unfold Oper.wp; rw [h]; exact hk
end
end Go.Proofs.Ytojilbacloegjaa

/- The blocks of one's own, as one fact: what each holds; below H all is as it was. -/
namespace Go.Proofs.Ytojilbacloegjaa
set_option linter.unusedVariables false
set_option linter.unusedSimpArgs false
open Go.RowKit

abbrev BlkD := Nat × TypeId × Array Value
def Blks (w : World) : List BlkD → Prop
  | [] => True
  | x :: L => Blk w x.1 x.2.1 x.2.2 ∧ Blks w L
/-- Below H the world is as A; the blocks of L, from H on, hold this; no two are one. -/
structure Own (H : Nat) (A : World) (L : List BlkD) (w : World) : Prop where
  below : Below H A w
  size : H ≤ w.heap.size
  all : Blks w L
  high : ∀ x ∈ L, H ≤ x.1
  diff : L.Pairwise fun x y => x.1 ≠ y.1
section
variable {H : Nat} {A w w' : World} {L : List BlkD}
theorem Blks.mono_ (h : Blks w L) (k : ∀ x ∈ L, Blk w x.1 x.2.1 x.2.2 → Blk w' x.1 x.2.1 x.2.2) : Blks w' L := by
  induction L with
  | nil => trivial
  | cons x L ih => exact ⟨k x (by simp) h.1, ih h.2 (fun y hy => k y (by simp [hy]))⟩
theorem Blks.mem (h : Blks w L) {x : BlkD} (hx : x ∈ L) : Blk w x.1 x.2.1 x.2.2 := by
  induction L with
  | nil => cases hx
  | cons y L ih =>
    rcases List.mem_cons.1 hx with rfl | hx
    · exact h.1
    · exact ih h.2 hx
theorem Own.start (w : World) : Own w.heap.size w [] w := ⟨Below.refl _ _, Nat.le_refl _, trivial, (fun _ h => by cases h), List.Pairwise.nil⟩
theorem Own.ext (h : Own H A L w) (k : Ext w w') : Own H A L w' :=
  ⟨h.below.trans (k.mono h.size), Nat.le_trans h.size k.size, h.all.mono_ fun _ _ hb => hb.ext k, h.high, h.diff⟩
theorem Own.lt (h : Own H A L w) {x : BlkD} (hx : x ∈ L) : x.1 < w.heap.size := (h.all.mem hx).lt
theorem Own.drew (h : Own H A L w) : Own H A L w.drew := h.ext (Ext.drew w)
theorem Own.new (h : Own H A L w) (t : TypeId) (cs : Array Value) : Own H A ((w.heap.size, t, cs) :: L) (w.alloc (.cells cs t)) := by
  have h1 := h.ext (Ext.alloc w (.cells cs t))
  refine ⟨h1.below, h1.size, ⟨Blk.new w t cs, h1.all⟩, fun x hx => ?_, ?_⟩
  · rcases List.mem_cons.1 hx with rfl | hx
    · exact h.size
    · exact h1.high x hx
  · exact List.Pairwise.cons (fun y hy e => by have := h.lt hy; simp only at e; omega) h.diff
theorem Own.other (h : Own H A L w) (o : Obj) : Own H A L (w.alloc o) := h.ext (Ext.alloc w o)
/-- The world with a block anew. -/
theorem Own.put (h : Own H A L w) {b : Nat} {t : TypeId} {cs : Array Value} {L1 L2 : List BlkD} (hL : L = L1 ++ (b, t, cs) :: L2) (cs' : Array Value) (hg : w.grownBy w' (some b)) (hb : Blk w' b t cs') : Own H A (L1 ++ (b, t, cs') :: L2) w' := by
  subst hL
  have hHb : H ≤ b := h.high (b, t, cs) (by simp)
  have hd := h.diff
  rw [List.pairwise_append] at hd
  obtain ⟨d1, d2, d3⟩ := hd
  rw [List.pairwise_cons] at d2
  have hfar : ∀ x ∈ L1 ++ L2, x.1 ≠ b := by
    intro x hx
    rcases List.mem_append.1 hx with hx | hx
    · exact d3 x hx (b, t, cs) (by simp)
    · exact (d2.1 x hx).symm
  have hmem : ∀ x ∈ L1 ++ L2, Blk w' x.1 x.2.1 x.2.2 := fun x hx => (h.all.mem (x := x) (by
    rcases List.mem_append.1 hx with hx | hx
    · simp [hx]
    · simp [hx])).grown hg (by simpa using hfar x hx)
  refine ⟨h.below.grown hg h.size (fun k e => by injection e with e; omega), Nat.le_trans h.size hg.size, ?_, ?_, ?_⟩
  · have : ∀ M : List BlkD, (∀ x ∈ M, Blk w' x.1 x.2.1 x.2.2) → Blks w' M := by
      intro M
      induction M with
      | nil => intro _; trivial
      | cons x M ih => intro hM; exact ⟨hM x (by simp), ih fun y hy => hM y (by simp [hy])⟩
    refine this _ fun x hx => ?_
    rcases List.mem_append.1 hx with hx | hx
    · exact hmem x (by simp [hx])
    · rcases List.mem_cons.1 hx with rfl | hx
      · exact hb
      · exact hmem x (by simp [hx])
  · intro x hx
    rcases List.mem_append.1 hx with hx | hx
    · exact h.high x (by simp [hx])
    · rcases List.mem_cons.1 hx with rfl | hx
      · exact hHb
      · exact h.high x (by simp [hx])
  · rw [List.pairwise_append]
    refine ⟨d1, List.pairwise_cons.2 ⟨d2.1, d2.2⟩, fun x hx y hy => ?_⟩
    rcases List.mem_cons.1 hy with rfl | hy
    · exact d3 x hx (b, t, cs) (by simp)
    · exact d3 x hx y (by simp [hy])
theorem Own.set (h : Own H A L w) {b : Nat} {t : TypeId} {cs : Array Value} {L1 L2 : List BlkD} (hL : L = L1 ++ (b, t, cs) :: L2) (i : Nat) (u : Value) : Own H A (L1 ++ (b, t, cs.setIfInBounds i u) :: L2) (w.setCell ⟨b, i, none⟩ u) :=
  h.put hL _ (only_setCell (World.grownBy.refl w _) (.inl rfl) u) ((h.all.mem (x := (b, t, cs)) (by rw [hL]; simp) : Blk w b t cs).set_ i u)
/-- Another block of one's own has turned. -/
theorem Own.far (h : Own H A L w) {b : Nat} (hb : H ≤ b) (hL : ∀ x ∈ L, x.1 ≠ b) (hg : w.grownBy w' (some b)) : Own H A L w' :=
  ⟨h.below.grown hg h.size (fun k e => by injection e with e; omega), Nat.le_trans h.size hg.size, (by
    have h0 := h.all
    clear h
    induction L with
    | nil => trivial
    | cons x L ih => exact ⟨h0.1.grown hg (by have := hL x (by simp); simpa using this), ih (fun y hy => hL y (by simp [hy])) h0.2⟩), h.high, h.diff⟩
theorem Own.setfar (h : Own H A L w) {p : Addr} (hb : H ≤ p.block) (hL : ∀ x ∈ L, x.1 ≠ p.block) (u : Value) : Own H A L (w.setCell p u) := h.far hb hL (only_setCell (World.grownBy.refl w _) (.inl rfl) u)
theorem Own.tail {x : BlkD} (h : Own H A (x :: L) w) : Own H A L w := ⟨h.below, h.size, h.all.2, fun y hy => h.high y (by simp [hy]), (List.pairwise_cons.1 h.diff).2⟩
theorem Own.done (h : Own w'.heap.size w' L w) : Below w'.heap.size w' w := h.below
end
end Go.Proofs.Ytojilbacloegjaa

/- append onto a row of the call's own whose head may be frozen: as the library's laws (Lib/FrozenHead, FrozenHead2), and besides: the new row is the old one or a new block. No program in sight. -/
namespace Go.Proofs.Ytojilbacloegjaa
set_option linter.unusedVariables false
set_option linter.unusedSimpArgs false
open Go Go.RowKit Go.Lib

theorem ownsF_mono {w : World} {base base' : Nat} {e : TypeId} {size : Nat} {v : Value} {n : Nat} {xs : List Value} (h : w.ownsRowF base e size v n xs) (hb : base' ≤ base) : w.ownsRowF base' e size v n xs := by
  refine ⟨h.1, ?_⟩
  rcases h.2 with hn | ⟨g, cap, cur, fz, hv, hg, rest⟩
  · exact .inl hn
  · exact .inr ⟨g, cap, cur, fz, hv, Nat.le_trans hb hg, rest⟩
theorem ownsF_fresh {w w' : World} {e : TypeId} {size : Nat} {v : Value} {n : Nat} {xs : List Value} (h : w'.ownsRowF w.heap.size e size v n xs) : v.ownBlock = (Value.slice none 0 0).ownBlock ∨ ∃ k, v.ownBlock = some k ∧ w.heap.size ≤ k := by
  rcases h.2 with ⟨rfl, _⟩ | ⟨g, cap, cur, fz, rfl, hg, _⟩
  · exact .inl rfl
  · exact .inr ⟨g, rfl, hg⟩

section
variable {P : Program} (w : World)

theorem buf_append_string (base : Nat) (t u ty e : TypeId) (i : TypeInfo) (ht : P.underlying t = some (.slice e)) (hu : P.underlying u = some .string) (hi : P.info? e = some i) (hz : i.zero = some (.int .u8 0))
    (hsize : i.size = 1) (hby : i.bytes = 1)
    (v : Value) (n : Nat) (xs : List Value) (hown : w.ownsRowF base e 1 v n xs) (s : ByteArray)
    (h63 : n + s.size ≤ maxLen) (hbytes : n + s.size ≤ 140737488355328) (hbase : base ≤ w.heap.size) :
    ∃ v' w', (Builtin.append_ #[t, u] ty #[v, .string s]).run P w = .ok v' w' ∧ w'.ownsRowF base e 1 v' (n + s.size) (xs ++ strCells s) ∧ w.grownBy w' v.ownBlock ∧
      (v'.ownBlock = v.ownBlock ∨ ∃ k, v'.ownBlock = some k ∧ w.heap.size ≤ k) := by
  rcases hown.2 with ⟨rfl, rfl⟩ | ⟨g, cap, cur, fz, rfl, hbg, hg, hfz, hnc, hcm, hcs, htake⟩
  · -- no row yet: the elder law
    obtain ⟨v', w', h1, h2, h3, h4⟩ := run_append_own_string (P := P) w w.heap.size t u ty e i ht hu hi hz hsize hby (.slice none 0 0) 0 xs ⟨hown.1, .inl ⟨rfl, rfl⟩⟩ s h63 hbytes (Nat.le_refl _)
    exact ⟨v', w', h1, ownsF_mono (World.ownsRowF_of h2) hbase, h3, ownsF_fresh (World.ownsRowF_of h2)⟩
  · have hsmall : n + s.size ≤ 9223372036854775807 := by simp only [maxLen] at h63; omega
    have hxl : xs.length = n := by simpa using hown.1
    have hlen : (xs ++ strCells s).length = (n + s.size) * 1 := by rw [List.length_append, hxl, strCells_length, Nat.mul_one]
    by_cases hroom : n + s.size ≤ cap
    · have hcs' : cur.size = cap := by simpa using hcs
      have hr := run_append_room_stringF (P := P) w t u ty e i ht hu hi hsize g n cap cur fz hg (by simpa using hfz) s hroom (by omega)
      refine ⟨_, _, hr, ⟨hlen, .inr ⟨g, cap, _, fz, rfl, hbg, setRow_heap w g cur _ e _ hg, by omega, hroom, hcm, ?_, ?_⟩⟩, ⟨rfl, rfl, rfl, by simp, fun k _ hk => setRow_other w g k _ (fun e => hk (by simp [Value.ownBlock, e]))⟩, .inl rfl⟩
      · simp only [List.size_toArray, List.length_append, List.length_take, List.length_drop, Array.length_toList, strCells_length]
        omega
      · have ht' : cur.toList.take n = xs := by simpa using htake
        rw [ht', ← hlen]
        exact List.take_left
    · have holds : ∀ j u, xs[j]? = some u → w.cell? ((⟨g, 0, none⟩ : Addr).add j) = some u := hown.cells (g := g) rfl
      have hr := run_append_grow_string (P := P) w t u ty e i (.int .u8 0) ht hu hi hz ⟨g, 0, none⟩ n cap xs (by rw [hsize]; simpa using hxl) holds s (by omega) (by omega) (by rw [hby]; exact growslice_fits (by omega) (by omega))
      have hge := grownCap_ge w (n + s.size) cap e
      have hcm2 : grownCap w (n + s.size) cap e ≤ maxLen := grownCap_le_maxLen w (n + s.size) cap e h63
      refine ⟨_, _, hr, ⟨hlen, .inr ⟨w.heap.size, _, _, (0, 0), rfl, hbase, _root_.Go.heap_alloc_new w.drew _, Nat.zero_le _, hge, hcm2, ?_, ?_⟩⟩, ⟨rfl, rfl, rfl, by simp, fun k hk _ => _root_.Go.heap_alloc_old w.drew _ hk⟩, .inr ⟨_, rfl, Nat.le_refl _⟩⟩
      · have hz1 : (Value.int IntKind.u8 0).cells.size = 1 := rfl
        simp only [Array.size_append, List.size_toArray, size_zeroCells, hz1, hxl, strCells_length]
        omega
      · simp only [Array.toList_append, List.append_assoc]
        rw [← List.append_assoc, ← hlen]
        exact List.take_left

theorem wp_buf_string {ops : Array Oper} {rest : List Oper} {o : Oper} {a : Act} {Q : Exit → Act → World → Prop} (hgd : o.guard = none) (sl x : Operand) (t u : TypeId)
    (ho : o.op = .call { callee := .builtin .append, args := #[sl, x], argTypes := #[t, u] })
    (base : Nat) (e : TypeId) (i : TypeInfo) (ht : P.underlying t = some (.slice e)) (hu : P.underlying u = some .string) (hi : P.info? e = some i) (hz : i.zero = some (.int .u8 0))
    (hsize : i.size = 1) (hby : i.bytes = 1)
    (v : Value) (n : Nat) (xs : List Value) (hs : a.eval sl = v) (hown : w.ownsRowF base e 1 v n xs) (s : ByteArray) (hx : a.eval x = .string s)
    (h63 : n + s.size ≤ maxLen) (hbytes : n + s.size ≤ 140737488355328) (hbase : base ≤ w.heap.size)
    (h : ∀ v' w', w'.ownsRowF base e 1 v' (n + s.size) (xs ++ strCells s) → w.grownBy w' v.ownBlock → (v'.ownBlock = v.ownBlock ∨ ∃ k, v'.ownBlock = some k ∧ w.heap.size ≤ k) → wpList P ops Q rest (a.put o.dst v') w') : wpList P ops Q (o :: rest) a w := by
  refine wpList_plain hgd fun K hK => ?_
  obtain ⟨v', w', hr, h2, h3, h4⟩ := buf_append_string (P := P) w base t u o.type e i ht hu hi hz hsize hby v n xs hown s h63 hbytes hbase
  unfold Oper.wp execOp
  simp only [ho, resolve, invoke, builtin, Sem.run_bind, Sem.run_pure, Result.andThen_ok, List.map_toArray, List.map_cons, List.map_nil, hs, hx, hr]
  exact hK _ _ (h v' w' h2 h3 h4)


theorem buf_append_cells (base : Nat) (t ty e : TypeId) (i : TypeInfo) (z : Value) (size bytes : Nat) (ht : P.underlying t = some (.slice e)) (hi : P.info? e = some i) (hz : i.zero = some z)
    (hsize : i.size = size) (hby : i.bytes = bytes) (hzs : z.cells.size = size) (hsz : 0 < size)
    (v : Value) (n : Nat) (xs : List Value) (hown : w.ownsRowF base e size v n xs)
    (a : Addr) (m c : Nat) (news : List Value) (hl : news.length = m * size) (hnews : ∀ j u, news[j]? = some u → w.cell? (a.add j) = some u) (h1 : ∀ u ∈ news, u.oneCell' = true)
    (h63 : n + m ≤ maxLen) (hbytes : (n + m) * bytes ≤ 140737488355328) (hbase : base ≤ w.heap.size) :
    ∃ v' w', (Builtin.append_ #[t, t] ty #[v, .slice (some a) m c]).run P w = .ok v' w' ∧ w'.ownsRowF base e size v' (n + m) (xs ++ news) ∧ w.grownBy w' v.ownBlock ∧
      (v'.ownBlock = v.ownBlock ∨ ∃ k, v'.ownBlock = some k ∧ w.heap.size ≤ k) := by
  rcases hown.2 with ⟨rfl, rfl⟩ | ⟨g, cap, cur, fz, rfl, hbg, hg, hfz, hnc, hcm, hcs, htake⟩
  · obtain ⟨v', w', r1, r2, r3, r4⟩ := run_append_own (P := P) w w.heap.size t ty e i z size bytes ht hi hz hsize hby hzs hsz (.slice none 0 0) 0 xs ⟨hown.1, .inl ⟨rfl, rfl⟩⟩ a m c news hl hnews h1 h63 hbytes (Nat.le_refl _)
    exact ⟨v', w', r1, ownsF_mono (World.ownsRowF_of r2) hbase, r3, ownsF_fresh (World.ownsRowF_of r2)⟩
  · subst hsize
    subst hby
    have hsmall : n + m ≤ 9223372036854775807 := by simp only [maxLen] at h63; omega
    have hlen : (xs ++ news).length = (n + m) * i.size := by rw [List.length_append, hown.1, hl, Nat.add_mul]
    by_cases hroom : n + m ≤ cap
    · have hfit : n * i.size + news.length ≤ cur.size := by rw [hl, hcs, ← Nat.add_mul]; exact Nat.mul_le_mul_right _ hroom
      have hr := run_append_roomF (P := P) w t ty e i ht hi g n cap cur fz hg hfz a m c news hl hnews h1 hroom hfit
      refine ⟨_, _, hr, ⟨hlen, .inr ⟨g, cap, _, fz, rfl, hbg, setRow_heap w g cur _ e _ hg, Nat.le_trans hfz (Nat.mul_le_mul_right _ (Nat.le_add_right n m)), hroom, hcm, ?_, ?_⟩⟩, ⟨rfl, rfl, rfl, by simp, fun k _ hk => setRow_other w g k _ (fun e => hk (by simp [Value.ownBlock, e]))⟩, .inl rfl⟩
      · simp only [List.size_toArray, List.length_append, List.length_take, List.length_drop, Array.length_toList]
        omega
      · rw [htake, ← hlen]
        exact List.take_left
    · have holds : ∀ j u, xs[j]? = some u → w.cell? ((⟨g, 0, none⟩ : Addr).add j) = some u := hown.cells (g := g) rfl
      have hr := run_append_grow (P := P) w t ty e i z ht hi hz ⟨g, 0, none⟩ n cap xs hown.1 holds a m c news hl hnews (by omega) (by omega) (growslice_fits (by omega) hbytes)
      have hge := grownCap_ge w (n + m) cap e
      have hcm2 : grownCap w (n + m) cap e ≤ maxLen := grownCap_le_maxLen w (n + m) cap e h63
      refine ⟨_, _, hr, ⟨hlen, .inr ⟨w.heap.size, _, _, (0, 0), rfl, hbase, _root_.Go.heap_alloc_new w.drew _, Nat.zero_le _, hge, hcm2, ?_, ?_⟩⟩, ⟨rfl, rfl, rfl, by simp, fun k hk _ => _root_.Go.heap_alloc_old w.drew _ hk⟩, .inr ⟨_, rfl, Nat.le_refl _⟩⟩
      · simp only [Array.size_append, List.size_toArray, size_zeroCells, hzs, hown.1, hl, ← Nat.add_mul]
        congr 1
        omega
      · simp only [Array.toList_append, List.append_assoc]
        rw [← List.append_assoc, ← hlen]
        exact List.take_left

theorem wp_buf_cells {ops : Array Oper} {rest : List Oper} {o : Oper} {a : Act} {Q : Exit → Act → World → Prop} (hgd : o.guard = none) (s x : Operand) (t : TypeId)
    (ho : o.op = .call { callee := .builtin .append, args := #[s, x], argTypes := #[t, t] })
    (base : Nat) (e : TypeId) (i : TypeInfo) (z : Value) (size bytes : Nat) (ht : P.underlying t = some (.slice e)) (hi : P.info? e = some i) (hz : i.zero = some z)
    (hsize : i.size = size) (hby : i.bytes = bytes) (hzs : z.cells.size = size) (hsz : 0 < size)
    (v : Value) (n : Nat) (xs : List Value) (hs : a.eval s = v) (hown : w.ownsRowF base e size v n xs)
    (ad : Addr) (m c : Nat) (news : List Value) (hx : a.eval x = .slice (some ad) m c) (hl : news.length = m * size) (hnews : ∀ j u, news[j]? = some u → w.cell? (ad.add j) = some u) (h1 : ∀ u ∈ news, u.oneCell' = true)
    (h63 : n + m ≤ maxLen) (hbytes : (n + m) * bytes ≤ 140737488355328) (hbase : base ≤ w.heap.size)
    (h : ∀ v' w', w'.ownsRowF base e size v' (n + m) (xs ++ news) → w.grownBy w' v.ownBlock → (v'.ownBlock = v.ownBlock ∨ ∃ k, v'.ownBlock = some k ∧ w.heap.size ≤ k) → wpList P ops Q rest (a.put o.dst v') w') : wpList P ops Q (o :: rest) a w := by
  refine wpList_plain hgd fun K hK => ?_
  obtain ⟨v', w', hr, h2, h3, h4⟩ := buf_append_cells (P := P) w base t o.type e i z size bytes ht hi hz hsize hby hzs hsz v n xs hown ad m c news hl hnews h1 h63 hbytes hbase
  unfold Oper.wp execOp
  simp only [ho, resolve, invoke, builtin, Sem.run_bind, Sem.run_pure, Result.andThen_ok, List.map_toArray, List.map_cons, List.map_nil, hs, hx, hr]
  exact hK _ _ (h v' w' h2 h3 h4)
end
end Go.Proofs.Ytojilbacloegjaa
