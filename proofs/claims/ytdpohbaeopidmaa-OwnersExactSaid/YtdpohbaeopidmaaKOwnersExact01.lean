/- Regions by facts: the facts in use and the laws of single operations. -/
import Derived.Test.YtdpohbaeopidmaaKOwnersExact00
import Derived.BigQuiet
namespace Go.Proofs.Ytdpohbaeopidmaa
set_option linter.unusedVariables false
set_option linter.unusedSimpArgs false
open Go.RowKit

/-- What was there is as it was. -/
abbrev Ext (w w' : World) : Prop := Below w.heap.size w w'
theorem Ext.refl (w : World) : Ext w w := Below.refl _ _
theorem Ext.trans {x y z : World} (h : Ext x y) (k : Ext y z) : Ext x z := Below.trans h (Below.mono k h.size)
theorem Ext.drew (w : World) : Ext w w.drew := (Below.refl _ w).drew
theorem Ext.alloc (w : World) (o : Obj) : Ext w (w.alloc o) := (Below.refl _ w).alloc (Nat.le_refl _) o
theorem ext_of_same {w w' : World} (h : w = w') : Ext w w' := h ▸ Ext.refl w
theorem Blk.ext {w w' : World} {g : Nat} {t : TypeId} {cs : Array Value} (h : Blk w g t cs) (k : Ext w w') : Blk w' g t cs := h.below k h.lt

section
variable {R : World → World → Prop}
theorem eval_tmp (a : Act) (t : Tmp) : a.eval (.tmp t) = a.tmps.getD t undef := rfl
theorem ev {a : Act} {t : Tmp} {v : Value} (h : a.eval (.tmp t) = v) : a.tmps[t]?.getD undef = v := by rw [← h, eval_tmp, Array.getD_eq_getD_getElem?]
theorem eval_of_same {a a' : Act} {t : Tmp} (h : a.tmps[t]? = a'.tmps[t]?) : a.eval (.tmp t) = a'.eval (.tmp t) := by
  simp only [eval_tmp, Array.getD_eq_getD_getElem?, h]
/-- The slot holds this value. -/
def det (d : Tmp) (v : Value) : TFact R := ⟨[d], fun a _ => a.eval (.tmp d) = v, fun a a' _ h e => (eval_of_same (h d (by simp))).symm.trans e, fun _ _ _ _ e => e⟩
/-- The slot holds a value of which this holds. -/
def fresh (d : Tmp) (φ : Value → World → Prop) (hφ : ∀ v w w', R w w' → φ v w → φ v w') : TFact R := ⟨[d], fun a w => φ (a.eval (.tmp d)) w, fun a a' w h e => by rw [← eval_of_same (h d (by simp))]; exact e, fun a w w' hR e => hφ _ _ _ hR e⟩
/-- No fact. -/
def nofact : TFact R := ⟨[], fun _ _ => True, fun _ _ _ _ _ => trivial, fun _ _ _ _ _ => trivial⟩

variable {P : Program} {ops : Array Oper} {w0 : World} {a0 : Act} {D : List Tmp} {A : List (List Nat)} {Fs : List (TFact R)}
theorem Env.eval {a : Act} (h : Env a0 D a) (t : Tmp) {v : Value} (ht : D.contains t = false) (hv : a0.eval (.tmp t) = v) : a.eval (.tmp t) = v :=
  (eval_of_same (h.keep t (by simpa using ht))).trans hv

variable {o : Oper} {a : Act} {w w' : World} {d : Tmp} {v : Value}
theorem wanted_none (hg : o.guard = none) : Region.wanted o (yielded ops a.tmps) = true := by unfold Region.wanted; rw [hg]
theorem wanted_some {j dj : Nat} {b c : Bool} (hg : o.guard = some (j, b)) (hj : (ops[j]?).bind (·.dst) = some dj) (he : a.eval (.tmp dj) = .bool c) : Region.wanted o (yielded ops a.tmps) = (c == b) := by
  have : a.tmps[dj]? = some (.bool c) := by
    rw [eval_tmp, Array.getD_eq_getD_getElem?] at he
    cases hx : a.tmps[dj]? with
    | none => rw [hx] at he; cases he
    | some x => rw [hx] at he; exact congrArg some he
  unfold Region.wanted yielded
  simp [hg, hj, this]
theorem eval_put (hs : d < a.tmps.size) : (a.put (some d) v).eval (.tmp d) = v := by
  simp [Act.put, eval_tmp, hs]
theorem opT_det (hd : o.dst = some d) (hs : d < a.tmps.size) (hr : R w w) (hw : Region.wanted o (yielded ops a.tmps) = true) (h : (execOp a.eval o).run P w = .ok (.value v) w) : opT P ops R o (det (R := R) d v).T a w := by
  refine .inl ⟨hw, ?_⟩
  unfold Yields
  rw [h]
  exact ⟨hr, by rw [hd]; exact eval_put hs⟩
theorem opT_skip (hd : o.dst = some d) (hs : d < a.tmps.size) (hw : Region.wanted o (yielded ops a.tmps) = false) : opT P ops R o (det (R := R) d undef).T a w :=
  .inr ⟨hw, by rw [hd]; exact eval_put hs⟩
theorem opT_call {f : FuncId} {args : Array Value} (hd : o.dst = some d) (hs : d < a.tmps.size) (hr : R w w) (hw : Region.wanted o (yielded ops a.tmps) = true) (h : (execOp a.eval o).run P w = .ok (.enter f args) w)
    (hc : Calls P f args w fun e w' => e = .returned v ∧ R w w') : opT P ops R o (det (R := R) d v).T a w := by
  refine .inl ⟨hw, ?_⟩
  unfold Yields
  rw [h]
  exact ⟨hr, hc.mono fun e w' ⟨he, hR⟩ => ⟨v, he, hR, by rw [hd]; exact eval_put hs⟩⟩
theorem opT_new {φ : Value → World → Prop} {hφ : ∀ v w w', R w w' → φ v w → φ v w'} (hd : o.dst = some d) (hs : d < a.tmps.size) (hw : Region.wanted o (yielded ops a.tmps) = true) (h : (execOp a.eval o).run P w = .ok (.value v) w') (hr : R w w') (hv : φ v w') :
    opT P ops R o (fresh (R := R) d φ hφ).T a w := by
  refine .inl ⟨hw, ?_⟩
  unfold Yields
  rw [h]
  exact ⟨hr, by rw [hd]; show φ ((a.put (some d) v).eval (.tmp d)) w'; rw [eval_put hs]; exact hv⟩
theorem opT_callnew {φ : Value → World → Prop} {hφ : ∀ v w w', R w w' → φ v w → φ v w'} {f : FuncId} {args : Array Value} (hd : o.dst = some d) (hs : d < a.tmps.size) (hr : R w w) (hw : Region.wanted o (yielded ops a.tmps) = true) (h : (execOp a.eval o).run P w = .ok (.enter f args) w)
    (hc : Calls P f args w fun e w' => ∃ v, e = .returned v ∧ R w w' ∧ φ v w') : opT P ops R o (fresh (R := R) d φ hφ).T a w := by
  refine .inl ⟨hw, ?_⟩
  unfold Yields
  rw [h]
  exact ⟨hr, hc.mono fun e w' ⟨v, he, hR, hv⟩ => ⟨v, he, hR, by rw [hd]; show φ ((a.put (some d) v).eval (.tmp d)) w'; rw [eval_put hs]; exact hv⟩⟩

theorem frame_eq {a0 a : Act} {D : List Tmp} (hE : Env a0 D a) (DV : List (Tmp × Value)) (hD : DV.map Prod.fst = D) (hv : ∀ p ∈ DV, a.eval (.tmp p.1) = p.2) : a = DV.foldl (fun x p => x.put (some p.1) p.2) a0 := by
  subst hD
  obtain ⟨h1, h2, h3⟩ := hE
  induction DV generalizing a0 with
  | nil =>
    obtain ⟨t, df⟩ := a
    obtain ⟨t0, df0⟩ := a0
    simp only at h1 h2
    subst h2
    have : t = t0 := Array.ext_getElem? (fun i => h3 i (by simp))
    rw [List.foldl_nil, this]
  | cons p DV ih =>
    rw [List.foldl_cons]
    refine ih (fun q hq => hv q (List.mem_cons_of_mem _ hq)) ?_ ?_ ?_
    · simpa [Act.put] using h1
    · simpa [Act.put] using h2
    · intro t ht
      by_cases hp : p.1 = t
      · have he := hv p (by simp)
        rw [eval_tmp, Array.getD_eq_getD_getElem?] at he
        subst hp
        simp only [Act.put, Array.getElem?_setIfInBounds_self]
        by_cases hs : p.1 < a.tmps.size
        · rw [Array.getElem?_eq_getElem hs] at he ⊢
          rw [← h1, if_pos hs]
          exact congrArg some he
        · have hs0 : ¬ p.1 < a0.tmps.size := h1 ▸ hs
          rw [Array.getElem?_eq_none (xs := a.tmps) (Nat.le_of_not_lt hs), if_neg hs0]
      · rw [h3 t (by simp; exact ⟨fun e => hp e.symm, by simpa using ht⟩)]
        simp [Act.put, Array.getElem?_setIfInBounds_ne hp]

/-- The facts, one operation behind the other. -/
inductive Build (P : Program) (ops : Array Oper) (R : World → World → Prop) (w0 : World) (a0 : Act) (D : List Tmp) (A : List (List Nat)) (G : List (Nat × TFact R) → Prop) : Nat → List Oper → List (Nat × TFact R) → Prop
  | stop {k : Nat} {os : List Oper} {done : List (Nat × TFact R)} (h : G done) : Build P ops R w0 a0 D A G k os done
  | step {k : Nat} {o : Oper} {os : List Oper} {done : List (Nat × TFact R)} (S : TFact R) (h : ∀ a w, Env a0 D a → R w0 w → (∀ (i : Nat) (S' : TFact R), i ∈ A.getD k [] → (i, S') ∈ done → S'.T a w) → opT P ops R o S.T a w)
      (hr : Build P ops R w0 a0 D A G (k + 1) os ((k, S) :: done)) : Build P ops R w0 a0 D A G k (o :: os) done

variable {G : List (Nat × TFact R) → Prop} {k : Nat} {os : List Oper} {done : List (Nat × TFact R)} {Q : Exit → Act → World → Prop}
abbrev facts (done : List (Nat × TFact R)) : List (TFact R) := done.reverse.map Prod.snd
theorem facts_cons (x : Nat × TFact R) (done : List (Nat × TFact R)) : facts (x :: done) = facts done ++ [x.2] := by simp [facts]
theorem facts_length (done : List (Nat × TFact R)) : (facts done).length = done.length := by simp [facts]
theorem Build.use (hb : Build P ops R w0 a0 D A G k os done) (hk : k = done.length) (hwf : ∀ (i : Nat) (S : TFact R), (i, S) ∈ done → (facts done)[i]? = some S) : ∃ fin : List (Nat × TFact R), G fin ∧ (∀ (i : Nat) (S : TFact R), (facts done)[i]? = some S → (facts fin)[i]? = some S) ∧
    (∀ (i : Nat) (S : TFact R), (i, S) ∈ fin → (facts fin)[i]? = some S) ∧ done.length ≤ fin.length ∧
    ∀ (i : Nat) (o : Oper) (S : TFact R), os[i]? = some o → (facts fin)[k + i]? = some S → ∀ a w, Env a0 D a → R w0 w → (∀ (j : Nat) (S' : TFact R), j ∈ A.getD (k + i) [] → (facts fin)[j]? = some S' → S'.T a w) → opT P ops R o S.T a w := by
  induction hb with
  | stop h =>
    rename_i k os done
    refine ⟨done, h, fun _ _ h => h, hwf, Nat.le_refl _, fun i o S _ hS => ?_⟩
    rw [List.getElem?_eq_none (by rw [facts_length]; omega)] at hS
    cases hS
  | step S h hr ih =>
    rename_i k o os done
    have hpre0 : ∀ (i : Nat) (S' : TFact R), (facts done)[i]? = some S' → (facts ((k, S) :: done))[i]? = some S' := fun i S' hi => by
      have hlt := (List.getElem?_eq_some_iff.1 hi).1
      rw [facts_cons, List.getElem?_append_left hlt]; exact hi
    obtain ⟨fin, hG, h1, hw, h2, h4⟩ := ih (by simp [hk]) (fun i S' hm => by
      rcases List.mem_cons.1 hm with he | hm
      · cases he
        rw [facts_cons, hk, ← facts_length done]
        simp
      · exact hpre0 i S' (hwf i S' hm))
    refine ⟨fin, hG, fun i S' hi => h1 i S' (hpre0 i S' hi), hw, by simp at h2; omega, ?_⟩
    intro i o' S' hi hS
    cases i with
    | zero =>
      simp at hi
      subst hi
      have : (facts fin)[k + 0]? = some S := h1 k S (by rw [facts_cons, hk, ← facts_length done]; simp)
      rw [this] at hS
      cases hS
      intro a w hE hR hF
      exact h a w hE hR (fun j S' hj hd => hF j S' hj (h1 j S' (hpre0 j S' (hwf j S' hd))))
    | succ i =>
      have := h4 i o' S' (by simpa using hi) (by rwa [show k + 1 + i = k + (i + 1) by omega])
      intro a w hE hR hF
      exact this a w hE hR (fun j S' hj hd => hF j S' (by rwa [show k + (i + 1) = k + 1 + i by omega]) hd)

/-- What is asked at the end of the facts. -/
def Fin (P : Program) (l : List Oper) (w0 : World) (a0 : Act) (D : List Tmp) (A : List (List Nat)) (Q : Exit → Act → World → Prop) (fin : List (Nat × TFact R)) : Prop :=
  okB l.toArray D A ((facts fin).map TFact.L) fin.length = true ∧
    ((fin.length = l.length ∧ ∀ a w, Env a0 D a → R w0 w → (∀ (i : Nat) (S : TFact R), (i, S) ∈ fin → S.T a w) → Q .normal a w) ∨
     ((decide (fin.length + 1 = l.length) && (List.range fin.length).all fun j => (A.getD fin.length []).contains j) = true ∧ ∃ o, l[fin.length]? = some o ∧ o.guard = none ∧
        ∀ a w, Env a0 D a → R w0 w → (∀ (i : Nat) (S : TFact R), (i, S) ∈ fin → S.T a w) → o.wp P a w (fun a w => Q .normal a w) Q))
theorem wp_typed {id : Nat} {l : List Oper} {w : World} (A : List (List Nat)) (D : List Tmp) (hrr : ∀ x, R x x) (hrt : ∀ x y z, R x y → R y z → R x z) (hw0 : R w0 w.drew) (hf : P.follows .mixedOrders = true)
    (h : Build P l.toArray R w0 a0 D A (Fin P l w0 a0 D A Q) 0 l []) : (Code.region id l.toArray true).wp P Q a0 w := by
  obtain ⟨fin, ⟨hok, hG⟩, -, hw, -, hstep⟩ := h.use rfl (fun _ _ h => by cases h)
  have hlen := facts_length fin
  refine wp_region_typed (facts fin) A D hf (by rw [hlen]; exact hok) ?_ hrr hrt hw0 (fun k o S h1 h2 a w hE hR hF => hstep k o S h1 (by simpa using h2) a w hE hR (by simpa using hF)) (fun a w hE hR hF => ?_)
  · rw [hlen]
    rcases hG with hG | hG
    · simp [hG.1]
    · rw [hG.1]; simp
  · rw [hlen]
    rcases hG with hG | hG
    · rw [if_pos hG.1]; exact hG.2 a w hE hR (fun i S hm => hF i S (hw i S hm))
    · obtain ⟨hl, o, ho, hg, hend⟩ := hG
      have hl : fin.length + 1 = l.length := by simp at hl; exact hl.1
      rw [if_neg (by omega)]
      unfold wpOp
      simp only [List.getElem?_toArray, ho]
      rw [if_pos (wanted_none hg)]
      exact .inl (hend a w hE hR (fun i S hm => hF i S (hw i S hm)))

/-- An operation that leaves the world alone. -/
theorem Build.det (d : Tmp) {v : Value} (hrr : ∀ x, R x x) (hd : o.dst = some d) (hn : Nat.blt d a0.tmps.size = true) (hg : o.guard = none)
    (h : ∀ a w, Env a0 D a → R w0 w → (∀ (i : Nat) (S' : TFact R), i ∈ A.getD k [] → (i, S') ∈ done → S'.T a w) → (execOp a.eval o).run P w = .ok (.value v) w)
    (hr : Build P ops R w0 a0 D A G (k + 1) os ((k, Proofs.Ytdpohbaeopidmaa.det d v) :: done)) : Build P ops R w0 a0 D A G k (o :: os) done :=
  .step _ (fun a w hE hR hF => opT_det hd (by rw [hE.size]; exact Nat.le_of_ble_eq_true hn) (hrr w) (wanted_none hg) (h a w hE hR hF)) hr
/-- A guarded one that is wanted. -/
theorem Build.detg (d : Tmp) {v : Value} {j dj : Nat} {b : Bool} (hrr : ∀ x, R x x) (hd : o.dst = some d) (hn : Nat.blt d a0.tmps.size = true) (hg : o.guard = some (j, b)) (hj : (ops[j]?).bind (·.dst) = some dj)
    (h : ∀ a w, Env a0 D a → R w0 w → (∀ (i : Nat) (S' : TFact R), i ∈ A.getD k [] → (i, S') ∈ done → S'.T a w) → a.eval (.tmp dj) = .bool b ∧ (execOp a.eval o).run P w = .ok (.value v) w)
    (hr : Build P ops R w0 a0 D A G (k + 1) os ((k, Proofs.Ytdpohbaeopidmaa.det d v) :: done)) : Build P ops R w0 a0 D A G k (o :: os) done :=
  .step _ (fun a w hE hR hF => opT_det hd (by rw [hE.size]; exact Nat.le_of_ble_eq_true hn) (hrr w) ((wanted_some hg hj (h a w hE hR hF).1).trans (by simp)) (h a w hE hR hF).2) hr
/-- A guarded one that is not. -/
theorem Build.skip (d : Tmp) {j dj : Nat} {b : Bool} (hd : o.dst = some d) (hn : Nat.blt d a0.tmps.size = true) (hg : o.guard = some (j, b)) (hj : (ops[j]?).bind (·.dst) = some dj)
    (h : ∀ a w, Env a0 D a → R w0 w → (∀ (i : Nat) (S' : TFact R), i ∈ A.getD k [] → (i, S') ∈ done → S'.T a w) → a.eval (.tmp dj) = .bool (!b))
    (hr : Build P ops R w0 a0 D A G (k + 1) os ((k, Proofs.Ytdpohbaeopidmaa.det d undef) :: done)) : Build P ops R w0 a0 D A G k (o :: os) done :=
  .step _ (fun a w hE hR hF => opT_skip hd (by rw [hE.size]; exact Nat.le_of_ble_eq_true hn) ((wanted_some hg hj (h a w hE hR hF)).trans (by simp))) hr
/-- A call whose value is known. -/
theorem Build.call (d : Tmp) {v : Value} {f : FuncId} {args : Array Value} (hrr : ∀ x, R x x) (hd : o.dst = some d) (hn : Nat.blt d a0.tmps.size = true) (hg : o.guard = none)
    (h : ∀ a w, Env a0 D a → R w0 w → (∀ (i : Nat) (S' : TFact R), i ∈ A.getD k [] → (i, S') ∈ done → S'.T a w) → (execOp a.eval o).run P w = .ok (.enter f args) w)
    (hc : ∀ w, R w0 w → Calls P f args w fun e w' => e = .returned v ∧ R w w')
    (hr : Build P ops R w0 a0 D A G (k + 1) os ((k, Proofs.Ytdpohbaeopidmaa.det d v) :: done)) : Build P ops R w0 a0 D A G k (o :: os) done :=
  .step _ (fun a w hE hR hF => opT_call hd (by rw [hE.size]; exact Nat.le_of_ble_eq_true hn) (hrr w) (wanted_none hg) (h a w hE hR hF) (hc w hR)) hr
theorem Build.callg (d : Tmp) {v : Value} {f : FuncId} {args : Array Value} {j dj : Nat} {b : Bool} (hrr : ∀ x, R x x) (hd : o.dst = some d) (hn : Nat.blt d a0.tmps.size = true) (hg : o.guard = some (j, b)) (hj : (ops[j]?).bind (·.dst) = some dj)
    (h : ∀ a w, Env a0 D a → R w0 w → (∀ (i : Nat) (S' : TFact R), i ∈ A.getD k [] → (i, S') ∈ done → S'.T a w) → a.eval (.tmp dj) = .bool b ∧ (execOp a.eval o).run P w = .ok (.enter f args) w)
    (hc : ∀ w, R w0 w → Calls P f args w fun e w' => e = .returned v ∧ R w w')
    (hr : Build P ops R w0 a0 D A G (k + 1) os ((k, Proofs.Ytdpohbaeopidmaa.det d v) :: done)) : Build P ops R w0 a0 D A G k (o :: os) done :=
  .step _ (fun a w hE hR hF => opT_call hd (by rw [hE.size]; exact Nat.le_of_ble_eq_true hn) (hrr w) ((wanted_some hg hj (h a w hE hR hF).1).trans (by simp)) (h a w hE hR hF).2 (hc w hR)) hr
/-- One that makes something of its own. -/
theorem Build.new (d : Tmp) (φ : Value → World → Prop) (hφ : ∀ v w w', R w w' → φ v w → φ v w') (hd : o.dst = some d) (hn : Nat.blt d a0.tmps.size = true) (hg : o.guard = none)
    (h : ∀ a w, Env a0 D a → R w0 w → (∀ (i : Nat) (S' : TFact R), i ∈ A.getD k [] → (i, S') ∈ done → S'.T a w) → ∃ v w', (execOp a.eval o).run P w = .ok (.value v) w' ∧ R w w' ∧ φ v w')
    (hr : Build P ops R w0 a0 D A G (k + 1) os ((k, fresh d φ hφ) :: done)) : Build P ops R w0 a0 D A G k (o :: os) done :=
  .step _ (fun a w hE hR hF => by
    obtain ⟨v, w', h1, h2, h3⟩ := h a w hE hR hF
    exact opT_new hd (by rw [hE.size]; exact Nat.le_of_ble_eq_true hn) (wanted_none hg) h1 h2 h3) hr
theorem Build.callnew (d : Tmp) (φ : Value → World → Prop) (hφ : ∀ v w w', R w w' → φ v w → φ v w') {f : FuncId} {args : Array Value} (hrr : ∀ x, R x x) (hd : o.dst = some d) (hn : Nat.blt d a0.tmps.size = true) (hg : o.guard = none)
    (h : ∀ a w, Env a0 D a → R w0 w → (∀ (i : Nat) (S' : TFact R), i ∈ A.getD k [] → (i, S') ∈ done → S'.T a w) → (execOp a.eval o).run P w = .ok (.enter f args) w)
    (hc : ∀ w, R w0 w → Calls P f args w fun e w' => ∃ v, e = .returned v ∧ R w w' ∧ φ v w')
    (hr : Build P ops R w0 a0 D A G (k + 1) os ((k, fresh d φ hφ) :: done)) : Build P ops R w0 a0 D A G k (o :: os) done :=
  .step _ (fun a w hE hR hF => opT_callnew hd (by rw [hE.size]; exact Nat.le_of_ble_eq_true hn) (hrr w) (wanted_none hg) (h a w hE hR hF) (hc w hR)) hr

inductive AllEq (a : Act) : List (Tmp × Value) → Prop
  | nil : AllEq a []
  | cons {d : Tmp} {v : Value} {l : List (Tmp × Value)} (h : a.eval (.tmp d) = v) (hr : AllEq a l) : AllEq a ((d, v) :: l)
theorem AllEq.all {a : Act} {l : List (Tmp × Value)} (h : AllEq a l) : ∀ p ∈ l, a.eval (.tmp p.1) = p.2 := by
  induction h with
  | nil => intro p hp; cases hp
  | cons h hr ih =>
    intro p hp
    rcases List.mem_cons.1 hp with rfl | hp
    · exact h
    · exact ih p hp
theorem AllEq.frame {a0 a : Act} {D : List Tmp} {DV : List (Tmp × Value)} (h : AllEq a DV) (hE : Env a0 D a) (hD : DV.map Prod.fst = D) : a = DV.foldl (fun x p => x.put (some p.1) p.2) a0 := frame_eq hE DV hD h.all
theorem wp_of_value {K : Act → World → Prop} (h : (execOp a.eval o).run P w = .ok (.value v) w') (hk : K (a.put o.dst v) w') : o.wp P a w K Q := by unfold Oper.wp; rw [h]; exact hk
theorem wp_of_enter {K : Act → World → Prop} {f : FuncId} {args : Array Value} {S : Ending → World → Prop} (h : (execOp a.eval o).run P w = .ok (.enter f args) w') (hc : Calls P f args w' S) (hk : ∀ e w'', S e w'' → ∃ v, e = .returned v ∧ K (a.put o.dst v) w'') : o.wp P a w K Q := by
  unfold Oper.wp
  rw [h]
  exact hc.mono fun e w'' hS => by obtain ⟨v, rfl, hK⟩ := hk e w'' hS; exact hK
theorem wp_of_skip {K : Act → World → Prop} (h : (execOp a.eval o).run P w = .ok .skip w') (hk : K (a.put o.dst undef) w') : o.wp P a w K Q := by unfold Oper.wp; rw [h]; exact hk
end
end Go.Proofs.Ytdpohbaeopidmaa

/- The blocks of one's own, as one fact: what each holds; below H all is as it was. -/
namespace Go.Proofs.Ytdpohbaeopidmaa
set_option linter.unusedVariables false
set_option linter.unusedSimpArgs false
open Go.RowKit

abbrev BlkD := Nat × TypeId × Array Value
def Blks (w : World) : List BlkD → Prop
  | [] => True
  | x :: L => Blk w x.1 x.2.1 x.2.2 ∧ Blks w L
/-- Below H the world is as A; the blocks of L, from H on, hold this; no two are one. -/
structure Own (H : Nat) (A : World) (L : List BlkD) (w : World) : Prop where
  below : Below H A w
  size : H ≤ w.heap.size
  all : Blks w L
  high : ∀ x ∈ L, H ≤ x.1
  diff : L.Pairwise fun x y => x.1 ≠ y.1
section
variable {H : Nat} {A w w' : World} {L : List BlkD}
theorem Blks.mono_ (h : Blks w L) (k : ∀ x ∈ L, Blk w x.1 x.2.1 x.2.2 → Blk w' x.1 x.2.1 x.2.2) : Blks w' L := by
  induction L with
  | nil => trivial
  | cons x L ih => exact ⟨k x (by simp) h.1, ih h.2 (fun y hy => k y (by simp [hy]))⟩
theorem Blks.mem (h : Blks w L) {x : BlkD} (hx : x ∈ L) : Blk w x.1 x.2.1 x.2.2 := by
  induction L with
  | nil => cases hx
  | cons y L ih =>
    rcases List.mem_cons.1 hx with rfl | hx
    · exact h.1
    · exact ih h.2 hx
theorem Own.start (w : World) : Own w.heap.size w [] w := ⟨Below.refl _ _, Nat.le_refl _, trivial, (fun _ h => by cases h), List.Pairwise.nil⟩
theorem Own.ext (h : Own H A L w) (k : Ext w w') : Own H A L w' :=
  ⟨h.below.trans (k.mono h.size), Nat.le_trans h.size k.size, h.all.mono_ fun _ _ hb => hb.ext k, h.high, h.diff⟩
theorem Own.lt (h : Own H A L w) {x : BlkD} (hx : x ∈ L) : x.1 < w.heap.size := (h.all.mem hx).lt
theorem Own.drew (h : Own H A L w) : Own H A L w.drew := h.ext (Ext.drew w)
theorem Own.new (h : Own H A L w) (t : TypeId) (cs : Array Value) : Own H A ((w.heap.size, t, cs) :: L) (w.alloc (.cells cs t)) := by
  have h1 := h.ext (Ext.alloc w (.cells cs t))
  refine ⟨h1.below, h1.size, ⟨Blk.new w t cs, h1.all⟩, fun x hx => ?_, ?_⟩
  · rcases List.mem_cons.1 hx with rfl | hx
    · exact h.size
    · exact h1.high x hx
  · exact List.Pairwise.cons (fun y hy e => by have := h.lt hy; simp only at e; omega) h.diff
theorem Own.other (h : Own H A L w) (o : Obj) : Own H A L (w.alloc o) := h.ext (Ext.alloc w o)
/-- The world with a block anew. -/
theorem Own.put (h : Own H A L w) {b : Nat} {t : TypeId} {cs : Array Value} {L1 L2 : List BlkD} (hL : L = L1 ++ (b, t, cs) :: L2) (cs' : Array Value) (hg : w.grownBy w' (some b)) (hb : Blk w' b t cs') : Own H A (L1 ++ (b, t, cs') :: L2) w' := by
  subst hL
  have hHb : H ≤ b := h.high (b, t, cs) (by simp)
  have hd := h.diff
  rw [List.pairwise_append] at hd
  obtain ⟨d1, d2, d3⟩ := hd
  rw [List.pairwise_cons] at d2
  have hfar : ∀ x ∈ L1 ++ L2, x.1 ≠ b := by
    intro x hx
    rcases List.mem_append.1 hx with hx | hx
    · exact d3 x hx (b, t, cs) (by simp)
    · exact (d2.1 x hx).symm
  have hmem : ∀ x ∈ L1 ++ L2, Blk w' x.1 x.2.1 x.2.2 := fun x hx => (h.all.mem (x := x) (by
    rcases List.mem_append.1 hx with hx | hx
    · simp [hx]
    · simp [hx])).grown hg (by simpa using hfar x hx)
  refine ⟨h.below.grown hg h.size (fun k e => by injection e with e; omega), Nat.le_trans h.size hg.size, ?_, ?_, ?_⟩
  · have : ∀ M : List BlkD, (∀ x ∈ M, Blk w' x.1 x.2.1 x.2.2) → Blks w' M := by
      intro M
      induction M with
      | nil => intro _; trivial
      | cons x M ih => intro hM; exact ⟨hM x (by simp), ih fun y hy => hM y (by simp [hy])⟩
    refine this _ fun x hx => ?_
    rcases List.mem_append.1 hx with hx | hx
    · exact hmem x (by simp [hx])
    · rcases List.mem_cons.1 hx with rfl | hx
      · exact hb
      · exact hmem x (by simp [hx])
  · intro x hx
    rcases List.mem_append.1 hx with hx | hx
    · exact h.high x (by simp [hx])
    · rcases List.mem_cons.1 hx with rfl | hx
      · exact hHb
      · exact h.high x (by simp [hx])
  · rw [List.pairwise_append]
    refine ⟨d1, List.pairwise_cons.2 ⟨d2.1, d2.2⟩, fun x hx y hy => ?_⟩
    rcases List.mem_cons.1 hy with rfl | hy
    · exact d3 x hx (b, t, cs) (by simp)
    · exact d3 x hx y (by simp [hy])
theorem Own.set (h : Own H A L w) {b : Nat} {t : TypeId} {cs : Array Value} {L1 L2 : List BlkD} (hL : L = L1 ++ (b, t, cs) :: L2) (i : Nat) (u : Value) : Own H A (L1 ++ (b, t, cs.setIfInBounds i u) :: L2) (w.setCell ⟨b, i, none⟩ u) :=
  h.put hL _ (only_setCell (World.grownBy.refl w _) (.inl rfl) u) ((h.all.mem (x := (b, t, cs)) (by rw [hL]; simp) : Blk w b t cs).set_ i u)
/-- Another block of one's own has turned. -/
theorem Own.far (h : Own H A L w) {b : Nat} (hb : H ≤ b) (hL : ∀ x ∈ L, x.1 ≠ b) (hg : w.grownBy w' (some b)) : Own H A L w' :=
  ⟨h.below.grown hg h.size (fun k e => by injection e with e; omega), Nat.le_trans h.size hg.size, (by
    have h0 := h.all
    clear h
    induction L with
    | nil => trivial
    | cons x L ih => exact ⟨h0.1.grown hg (by have := hL x (by simp); simpa using this), ih (fun y hy => hL y (by simp [hy])) h0.2⟩), h.high, h.diff⟩
theorem Own.setfar (h : Own H A L w) {p : Addr} (hb : H ≤ p.block) (hL : ∀ x ∈ L, x.1 ≠ p.block) (u : Value) : Own H A L (w.setCell p u) := h.far hb hL (only_setCell (World.grownBy.refl w _) (.inl rfl) u)
theorem Own.tail {x : BlkD} (h : Own H A (x :: L) w) : Own H A L w := ⟨h.below, h.size, h.all.2, fun y hy => h.high y (by simp [hy]), (List.pairwise_cons.1 h.diff).2⟩
theorem Own.done (h : Own w'.heap.size w' L w) : Below w'.heap.size w' w := h.below
end
end Go.Proofs.Ytdpohbaeopidmaa

/- Things of one's own: what holds of some blocks; below H all is as it was. -/
namespace Go.Proofs.Ytdpohbaeopidmaa
set_option linter.unusedVariables false
set_option linter.unusedSimpArgs false
open Go.RowKit

/-- Only the blocks of F, and what is new, have turned. -/
structure Chg (F : List Nat) (w w' : World) : Prop where
  os : w'.os = w.os
  tape : w'.tape = w.tape
  output : w'.output = w.output
  size : w.heap.size ≤ w'.heap.size
  block : ∀ i, i < w.heap.size → i ∉ F → w'.heap[i]? = w.heap[i]?
/-- What holds of the blocks 'foot', whatever becomes of others. -/
structure Thing where
  foot : List Nat
  holds : World → Prop
  keep : ∀ w w', w.heap.size ≤ w'.heap.size → (∀ i ∈ foot, w'.heap[i]? = w.heap[i]?) → holds w → holds w'
  lt : ∀ w, holds w → ∀ i ∈ foot, i < w.heap.size
section
variable {F G : List Nat} {w w' w'' : World}
theorem Chg.refl (F : List Nat) (w : World) : Chg F w w := ⟨rfl, rfl, rfl, Nat.le_refl _, fun _ _ _ => rfl⟩
theorem Chg.trans (h : Chg F w w') (k : Chg F w' w'') : Chg F w w'' :=
  ⟨k.os.trans h.os, k.tape.trans h.tape, k.output.trans h.output, Nat.le_trans h.size k.size, fun i hi hn => (k.block i (Nat.lt_of_lt_of_le hi h.size) hn).trans (h.block i hi hn)⟩
/-- Behind a change, a change of what is new or was changed. -/
theorem Chg.trans' (h : Chg F w w') (k : Chg G w' w'') (hG : ∀ i ∈ G, i ∈ F ∨ w.heap.size ≤ i) : Chg F w w'' :=
  ⟨k.os.trans h.os, k.tape.trans h.tape, k.output.trans h.output, Nat.le_trans h.size k.size, fun i hi hn => (k.block i (Nat.lt_of_lt_of_le hi h.size) (fun hg => by
    rcases hG i hg with h1 | h1
    · exact hn h1
    · omega)).trans (h.block i hi hn)⟩
theorem Chg.mono (h : Chg F w w') (hF : ∀ i ∈ F, i ∈ G ∨ w.heap.size ≤ i) : Chg G w w' :=
  ⟨h.os, h.tape, h.output, h.size, fun i hi hn => h.block i hi (fun hf => by
    rcases hF i hf with h1 | h1
    · exact hn h1
    · omega)⟩
theorem Chg.of_ext (h : Ext w w') (F : List Nat) : Chg F w w' := ⟨h.os, h.tape, h.output, h.size, fun i hi _ => h.block i hi⟩
theorem Chg.ext (h : Chg [] w w') : Ext w w' := ⟨h.os, h.tape, h.output, h.size, fun i hi => h.block i hi (by simp)⟩
theorem Chg.of_grown {b : Nat} (h : w.grownBy w' (some b)) : Chg [b] w w' := ⟨h.os, h.tape, h.output, h.size, fun i hi hn => h.block i hi (by simpa using hn)⟩
theorem Chg.grown {b : Nat} (h : Chg [b] w w') : w.grownBy w' (some b) := ⟨h.os, h.tape, h.output, h.size, fun i hi hn => h.block i hi (by simpa using hn)⟩
theorem Chg.drew (h : Chg F w w') : Chg F w w'.drew := ⟨h.os, h.tape, h.output, h.size, h.block⟩
theorem Chg.alloc (h : Chg F w w') (o : Obj) : Chg F w (w'.alloc o) := h.trans (Chg.of_ext (Ext.alloc w' o) F)
theorem Chg.set (h : Chg F w w') {p : Addr} (hp : p.block ∈ F ∨ w.heap.size ≤ p.block) (u : Value) : Chg F w (w'.setCell p u) :=
  h.trans' (G := [p.block]) (Chg.of_grown (only_setCell (World.grownBy.refl w' _) (.inl rfl) u)) (fun i hi => by
    simp at hi
    subst hi
    exact hp)
theorem Chg.blk (h : Chg F w w') {g : Nat} {t : TypeId} {cs : Array Value} (hb : Blk w g t cs) (hg : g ∉ F) : Blk w' g t cs := (h.block g hb.lt hg).trans hb
theorem Chg.below {H : Nat} {A : World} (h : Chg F w w') (hb : Below H A w) (hs : H ≤ w.heap.size) (hF : ∀ i ∈ F, H ≤ i) : Below H A w' :=
  ⟨h.os.trans hb.os, h.tape.trans hb.tape, h.output.trans hb.output, Nat.le_trans hb.size h.size, fun i hi => (h.block i (by omega) (fun hf => by have := hF i hf; omega)).trans (hb.block i hi)⟩
end
/-- A block of cells. -/
def tBlk (b : Nat) (t : TypeId) (cs : Array Value) : Thing where
  foot := [b]
  holds := fun w => Blk w b t cs
  keep := fun w w' _ h hb => (h b (by simp)).trans hb
  lt := fun w h i hi => by simp at hi; subst hi; exact h.lt

def Ths (w : World) : List Thing → Prop
  | [] => True
  | x :: L => x.holds w ∧ Ths w L
structure OwnT (H : Nat) (A : World) (L : List Thing) (w : World) : Prop where
  below : Below H A w
  size : H ≤ w.heap.size
  all : Ths w L
  high : ∀ x ∈ L, ∀ i ∈ x.foot, H ≤ i
  diff : L.Pairwise fun x y => ∀ i ∈ x.foot, i ∉ y.foot
section
variable {H : Nat} {A w w' : World} {L L1 L2 : List Thing} {T T' : Thing} {F : List Nat}
theorem Ths.mem (h : Ths w L) (hx : T ∈ L) : T.holds w := by
  induction L with
  | nil => cases hx
  | cons y L ih =>
    rcases List.mem_cons.1 hx with rfl | hx
    · exact h.1
    · exact ih h.2 hx
theorem Ths.of (h : ∀ x ∈ L, x.holds w) : Ths w L := by
  induction L with
  | nil => trivial
  | cons x L ih => exact ⟨h x (by simp), ih fun y hy => h y (by simp [hy])⟩
theorem OwnT.start (w : World) : OwnT w.heap.size w [] w := ⟨Below.refl _ _, Nat.le_refl _, trivial, (fun _ h => by cases h), List.Pairwise.nil⟩
theorem OwnT.lt (h : OwnT H A L w) (hx : T ∈ L) {i : Nat} (hi : i ∈ T.foot) : i < w.heap.size := T.lt w (h.all.mem hx) i hi
theorem OwnT.at_ (h : OwnT H A L w) (hx : T ∈ L) : T.holds w := h.all.mem hx
theorem OwnT.t0 (h : OwnT H A (T :: L) w) : T.holds w := h.all.1
theorem OwnT.t1 {X : Thing} (h : OwnT H A (X :: T :: L) w) : T.holds w := h.all.2.1
theorem OwnT.t2 {X Y : Thing} (h : OwnT H A (X :: Y :: T :: L) w) : T.holds w := h.all.2.2.1
theorem OwnT.t3 {X Y Z : Thing} (h : OwnT H A (X :: Y :: Z :: T :: L) w) : T.holds w := h.all.2.2.2.1
theorem OwnT.t4 {X Y Z U : Thing} (h : OwnT H A (X :: Y :: Z :: U :: T :: L) w) : T.holds w := h.all.2.2.2.2.1
theorem OwnT.t5 {X Y Z U V : Thing} (h : OwnT H A (X :: Y :: Z :: U :: V :: T :: L) w) : T.holds w := h.all.2.2.2.2.2.1
/-- What is not of F stays. -/
theorem Thing.chg (T : Thing) (h : T.holds w) (k : Chg F w w') (hF : ∀ i ∈ T.foot, i ∉ F) : T.holds w' :=
  T.keep w w' k.size (fun i hi => k.block i (T.lt w h i hi) (hF i hi)) h
theorem OwnT.ext (h : OwnT H A L w) (k : Ext w w') : OwnT H A L w' :=
  ⟨h.below.trans (k.mono h.size), Nat.le_trans h.size k.size, Ths.of fun x hx => x.chg (h.all.mem hx) (Chg.of_ext k []) (by simp), h.high, h.diff⟩
theorem OwnT.drew (h : OwnT H A L w) : OwnT H A L w.drew := h.ext (Ext.drew w)
theorem OwnT.other (h : OwnT H A L w) (o : Obj) : OwnT H A L (w.alloc o) := h.ext (Ext.alloc w o)
theorem OwnT.perm (h : OwnT H A L w) {M : List Thing} (hp : L.Perm M) : OwnT H A M w :=
  ⟨h.below, h.size, Ths.of fun x hx => h.all.mem (hp.mem_iff.2 hx), fun x hx => h.high x (hp.mem_iff.2 hx),
   hp.pairwise h.diff (fun {x y} hxy i hi hj => hxy i hj hi)⟩
theorem OwnT.sub (h : OwnT H A L w) {M : List Thing} (hp : M.Sublist L) : OwnT H A M w :=
  ⟨h.below, h.size, Ths.of fun x hx => h.all.mem (hp.subset hx), fun x hx => h.high x (hp.subset hx), h.diff.sublist hp⟩
theorem OwnT.tail (h : OwnT H A (T :: L) w) : OwnT H A L w := h.sub (List.sublist_cons_self T L)
/-- The thing there comes to the front. -/
theorem OwnT.front (h : OwnT H A L w) (L1 : List Thing) (hL : L = L1 ++ T :: L2) : OwnT H A (T :: (L1 ++ L2)) w := h.perm (hL ▸ List.perm_middle)
/-- A new thing. -/
theorem OwnT.cons (h : OwnT H A L w) (k : Ext w w') (T : Thing) (hT : T.holds w') (hf : ∀ i ∈ T.foot, w.heap.size ≤ i) : OwnT H A (T :: L) w' := by
  have h1 := h.ext k
  refine ⟨h1.below, h1.size, ⟨hT, h1.all⟩, fun x hx i hi => ?_, List.Pairwise.cons (fun y hy i hi hj => ?_) h.diff⟩
  · rcases List.mem_cons.1 hx with rfl | hx
    · have := hf i hi; have := h.size; omega
    · exact h.high x hx i hi
  · have := hf i hi
    have := h.lt hy hj
    omega
theorem OwnT.new (h : OwnT H A L w) (t : TypeId) (cs : Array Value) : OwnT H A (tBlk w.heap.size t cs :: L) (w.alloc (.cells cs t)) :=
  h.cons (Ext.alloc w _) (tBlk w.heap.size t cs) (Blk.new w t cs) (fun i hi => by simp [tBlk] at hi; omega)
/-- The first thing has turned, and what is new. -/
theorem OwnT.call (h : OwnT H A (T :: L) w) (k : Chg F w w') (hF : ∀ i ∈ F, i ∈ T.foot) (T' : Thing) (hT : T'.holds w') (hf : ∀ i ∈ T'.foot, i ∈ T.foot ∨ w.heap.size ≤ i) : OwnT H A (T' :: L) w' := by
  have hd := List.pairwise_cons.1 h.diff
  refine ⟨k.below h.below h.size (fun i hi => h.high T (by simp) i (hF i hi)), Nat.le_trans h.size k.size, ⟨hT, Ths.of fun x hx => x.chg (h.all.mem (by simp [hx])) k (fun i hi hf => hd.1 x hx i (hF i hf) hi)⟩, fun x hx i hi => ?_, List.Pairwise.cons (fun y hy i hi hj => ?_) hd.2⟩
  · rcases List.mem_cons.1 hx with rfl | hx
    · rcases hf i hi with h1 | h1
      · exact h.high T (by simp) i h1
      · have := h.size; omega
    · exact h.high x (by simp [hx]) i hi
  · rcases hf i hi with h1 | h1
    · exact hd.1 y hy i h1 hj
    · have := h.lt (T := y) (by simp [hy]) hj
      omega
/-- Two things have turned. -/
theorem OwnT.call2 {S S' : Thing} (h : OwnT H A (S :: T :: L) w) (k : Chg F w w') (hF : ∀ i ∈ F, i ∈ S.foot ∨ i ∈ T.foot) (S' T' : Thing) (hS : S'.holds w') (hT : T'.holds w') (hs : ∀ i ∈ S'.foot, i ∈ S.foot ∨ w.heap.size ≤ i) (hf : ∀ i ∈ T'.foot, i ∈ T.foot ∨ w.heap.size ≤ i)
    (hd : ∀ i ∈ S'.foot, i ∉ T'.foot) : OwnT H A (S' :: T' :: L) w' := by
  have hd1 := List.pairwise_cons.1 h.diff
  have hd2 := List.pairwise_cons.1 hd1.2
  have hlow : ∀ (i : Nat) (X X' : Thing), X ∈ S :: T :: L → (∀ i ∈ X'.foot, i ∈ X.foot ∨ w.heap.size ≤ i) → i ∈ X'.foot → H ≤ i := fun i X X' hX hx hi => by
    rcases hx i hi with h1 | h1
    · exact h.high X hX i h1
    · have := h.size; omega
  refine ⟨k.below h.below h.size (fun i hi => ?_), Nat.le_trans h.size k.size, ⟨hS, hT, Ths.of fun x hx => x.chg (h.all.mem (by simp [hx])) k (fun i hi hf => ?_)⟩, fun x hx i hi => ?_, ?_⟩
  · rcases hF i hi with h1 | h1
    · exact h.high S (by simp) i h1
    · exact h.high T (by simp) i h1
  · rcases hF i hf with h1 | h1
    · exact hd1.1 x (by simp [hx]) i h1 hi
    · exact hd2.1 x hx i h1 hi
  · rcases List.mem_cons.1 hx with rfl | hx
    · exact hlow i S x (by simp) hs hi
    · rcases List.mem_cons.1 hx with rfl | hx
      · exact hlow i T x (by simp) hf hi
      · exact h.high x (by simp [hx]) i hi
  · refine List.Pairwise.cons (fun y hy i hi hj => ?_) (List.Pairwise.cons (fun y hy i hi hj => ?_) hd2.2)
    · rcases List.mem_cons.1 hy with rfl | hy
      · exact hd i hi hj
      · rcases hs i hi with h1 | h1
        · exact hd1.1 y (by simp [hy]) i h1 hj
        · have := h.lt (T := y) (by simp [hy]) hj
          omega
    · rcases hf i hi with h1 | h1
      · exact hd2.1 y hy i h1 hj
      · have := h.lt (T := y) (by simp [hy]) hj
        omega
/-- A cell of a block. -/
theorem OwnT.set {b : Nat} {t : TypeId} {cs : Array Value} (h : OwnT H A (tBlk b t cs :: L) w) (i : Nat) (u : Value) : OwnT H A (tBlk b t (cs.setIfInBounds i u) :: L) (w.setCell ⟨b, i, none⟩ u) :=
  h.call (F := [b]) (Chg.of_grown (only_setCell (World.grownBy.refl w _) (.inl rfl) u)) (fun i hi => by simpa [tBlk] using hi) (tBlk b t (cs.setIfInBounds i u)) ((h.all.1 : Blk w b t cs).set_ i u) (fun i hi => .inl (by simpa [tBlk] using hi))
end
end Go.Proofs.Ytdpohbaeopidmaa
