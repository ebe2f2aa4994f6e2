/- A region that draws its order and holds a call that writes and hands back something new: the relation that keeps facts goes by what is done. No function of the program in sight. -/
import Derived.Test.YtgdlnfljfiageaaDoorKGridBack03
import Derived.Test.YtgdlnfljfiageaaDoorKGridBack04
import Derived.RangeFuncNested
import Derived.RangeFuncLeaves
import Derived.RangeFuncRecord
import Derived.Shelf.Abstract
import Derived.OrdersIn
namespace Go.Proofs.YtgdlnfljfiageaaDoor
set_option linter.unusedVariables false
set_option linter.unusedSimpArgs false
open Go.RowKit

/-- What operation 'idx' leaves: a fact of the slots L and of the world, kept by every step behind it. -/
structure TFactL (R : (Nat → Bool) → World → World → Prop) where
  idx : Nat
  L : List Tmp
  T : Act → World → Prop
  loc : ∀ a a' w, (∀ t ∈ L, a.tmps[t]? = a'.tmps[t]?) → T a w → T a' w
  mono : ∀ l a w w', l idx = true → R l w w' → T a w → T a w'
section
variable {P : Program} {R : (Nat → Bool) → World → World → Prop} {ops : Array Oper} {I : (Nat → Bool) → World → Prop} {a0 : Act} {D : List Tmp} {A : List (List Nat)} {Fs : List (TFactL R)} {m : Nat} {Q : Exit → Act → World → Prop}
abbrev factsL (done : List (Nat × TFactL R)) : List (TFactL R) := done.reverse.map Prod.snd
theorem Z1d (x : Nat × TFactL R) (done : List (Nat × TFactL R)) : factsL (x :: done) = factsL done ++ [x.2] := by simp [factsL]
theorem Z0y (done : List (Nat × TFactL R)) : (factsL done).length = done.length := by simp [factsL]
def plain (Fs : List (TFactL R)) : List (TFact (fun _ _ : World => False)) := Fs.map fun S => ⟨S.L, S.T, S.loc, fun _ _ _ h _ => h.elim⟩
theorem plain_L (Fs : List (TFactL R)) : (plain Fs).map TFact.L = Fs.map TFactL.L := by simp [plain, Function.comp_def]
theorem Z7c {i : Nat} {S : TFactL R} (h : Fs[i]? = some S) : ∃ S', (plain Fs)[i]? = some S' ∧ S'.L = S.L := ⟨_, by rw [plain, List.getElem?_map, h]; rfl, rfl⟩
structure LInv (ops : Array Oper) (I : (Nat → Bool) → World → Prop) (a0 : Act) (D : List Tmp) (Fs : List (TFactL R)) (m : Nat) (listed : Array Bool) (a : Act) (w : World) : Prop where
  sz : listed.size = ops.size
  env : Env a0 D a
  inv : I (fun i => listed.getD i false) w
  closed : ∀ j o, listed.getD j false = true → ops[j]? = some o → ∀ e ∈ o.after, Region.binds .any e = true → listed.getD e.on false = true
  typed : ∀ i S, listed.getD i false = true → Fs[i]? = some S → S.T a w
  un : ∀ i, m ≤ i → listed.getD i false = false

theorem Z3y (hok0 : okB ops D A (Fs.map TFactL.L) m = true) (hidx : ∀ (i : Nat) (S : TFactL R), Fs[i]? = some S → S.idx = i) (hlen : Fs.length = m) (hms : m ≤ ops.size) (hm : ∀ i, m ≤ i → i < ops.size → ∀ j, j < i → j ∈ A.getD i [])
    (hstep : ∀ (k : Nat) (o : Oper) (S : TFactL R), ops[k]? = some o → Fs[k]? = some S → ∀ l a w, Env a0 D a → I l w → l k = false → (∀ i ∈ A.getD k [], l i = true) → (∀ (i : Nat) (S' : TFactL R), i ∈ A.getD k [] → Fs[i]? = some S' → S'.T a w) → opR P ops (R l) (I (upd l k)) o S.T a w)
    (hrr : ∀ l w, R l w w)
    (hend : ∀ l a w, Env a0 D a → I l w → (∀ i, i < m → l i = true) → (∀ (i : Nat) (S : TFactL R), Fs[i]? = some S → S.T a w) → tailWp P ops Q (ops.size - m) m a w) :
    ∀ (fuel : Nat) (listed : Array Bool) (a : Act) (w : World), LInv ops I a0 D Fs m listed a w → listed.toList.count false = fuel → wpAny P .any ops Q fuel listed a w := by
  have hok : okB ops D A ((plain Fs).map TFact.L) m = true := by rw [plain_L]; exact hok0
  intro fuel
  induction fuel with
  | zero =>
    intro listed a w hI h0
    obtain ⟨hr, hx⟩ := Z2u (ops := ops) listed hI.sz h0
    have hmm : m = ops.size := by
      by_cases h : m < ops.size
      · have := hx m h
        rw [hI.un m (Nat.le_refl _)] at this
        cases this
      · omega
    refine ⟨hr, ?_⟩
    have := hend _ a w hI.env hI.inv (fun i hi => hx i (by omega)) (fun i S hS => hI.typed i S (hx i (by have := (List.getElem?_eq_some_iff.1 hS).1; omega)) hS)
    rwa [show ops.size - m = 0 by omega] at this
  | succ fuel ih =>
    intro listed a w hI hcnt
    by_cases hall : ∀ j, j < m → listed.getD j false = true
    · exact Z75 hok hm (fuel + 1) m listed a w (Nat.le_refl _) hms hI.sz hall hI.un hI.closed hcnt (hend _ a w hI.env hI.inv hall (fun i S hS => hI.typed i S (hall i (by have := (List.getElem?_eq_some_iff.1 hS).1; omega)) hS))
    refine ⟨fun hr => (Z2n hok listed hI.sz fuel hcnt hr).elim, fun i hi => ?_⟩
    obtain ⟨hun, o, ho, hpre⟩ := mem_ready.1 hi
    have hio : i < ops.size := (Array.getElem?_eq_some_iff.1 ho).1
    have his : i < listed.size := by have := hI.sz; omega
    have hanc := Z1a hok hI.closed hI.sz i o ho hpre
    have him : i < m := by
      by_cases h : i < m
      · exact h
      · exact (hall (fun j hj => hanc j (hm i (by omega) hio j (by omega)))).elim
    obtain ⟨S, hS⟩ : ∃ S, Fs[i]? = some S := ⟨_, List.getElem?_eq_getElem (by omega)⟩
    have hst := hstep i o S ho hS _ a w hI.env hI.inv (by rw [Z0p his false true]; exact hun) hanc (fun j S' hj hS' => hI.typed j S' (hanc j hj) hS')
    have hnext : ∀ v w', R (fun j => listed.getD j false) w w' → I (upd (fun j => listed.getD j false) i) w' → S.T (a.put o.dst v) w' → LInv ops I a0 D Fs m (listed.setIfInBounds i true) (a.put o.dst v) w' := by
      intro v w' hRw hR hT
      obtain ⟨_, _, h3⟩ := Z3m hok ho
      have h3 := h3 him
      refine ⟨by simpa using hI.sz, ⟨?_, ?_, ?_⟩, by rw [Z50 his]; exact hR, Z2r his ho hpre hI.closed, ?_, ?_⟩
      · rw [← hI.env.size]; cases hd : o.dst <;> simp [Act.put]
      · rw [← hI.env.defers]; cases hd : o.dst <;> simp [Act.put]
      · intro t ht
        rw [← hI.env.keep t ht]
        cases hd : o.dst with
        | none => simp [Act.put]
        | some d =>
          have := (h3 d hd).1
          have hne : d ≠ t := fun e => ht (e ▸ this)
          simp [Act.put, Array.getElem?_setIfInBounds_ne hne]
      · intro j S' hj hS'
        by_cases hji : i = j
        · subst hji
          rw [hS] at hS'
          cases hS'
          exact hT
        · rw [getD_set_ne false hji] at hj
          have hold := S'.mono (fun j => listed.getD j false) _ w w' (by rw [hidx j S' hS']; exact hj) hRw (hI.typed j S' hj hS')
          refine S'.loc _ _ _ (fun t ht => ?_) hold
          cases hd : o.dst with
          | none => simp [Act.put]
          | some d =>
            have hja : i ∉ A.getD j [] := by
              intro hmem
              obtain ⟨oj, hoj⟩ : ∃ oj, ops[j]? = some oj := ⟨_, Array.getElem?_eq_getElem (by have := (List.getElem?_eq_some_iff.1 hS').1; omega)⟩
              have := Z1a hok hI.closed hI.sz j oj hoj (hI.closed j oj hj hoj) i hmem
              rw [Z0p his false true, hun] at this
              cases this
            obtain ⟨S2, hS2, hSL⟩ := Z7c hS'
            have hne : d ≠ t := fun e => (h3 d hd).2 j S2 hS2 (fun e => hji e.symm) hja (by rw [hSL]; exact e ▸ ht)
            simp [Act.put, Array.getElem?_setIfInBounds_ne hne]
      · intro j hj
        have : i ≠ j := by omega
        rw [getD_set_ne false this]
        exact hI.un j hj
    have hk : ∀ v w', R (fun j => listed.getD j false) w w' → I (upd (fun j => listed.getD j false) i) w' → S.T (a.put o.dst v) w' → wpAny P .any ops Q fuel (listed.setIfInBounds i true) (a.put o.dst v) w' :=
      fun v w' hRw hR hT => ih _ _ _ (hnext v w' hRw hR hT) (count_set his hun _ hcnt)
    unfold wpOp
    simp only [ho]
    rcases hst with ⟨hw, hy⟩ | ⟨hw, hJ, hT⟩
    · rw [if_pos hw]
      refine .inl ?_
      unfold YieldsR at hy
      unfold Oper.wp
      generalize (execOp a.eval o).run P w = r at hy ⊢
      cases r with
      | halt x w' => exact hy.elim
      | ok n w' =>
        cases n <;> simp only [Oper.upon] at hy ⊢
        case value v => exact hk v w' hy.1 hy.2.1 hy.2.2
        case skip => exact hk undef w' hy.1 hy.2.1 hy.2.2
        case enter f args =>
          refine hy.mono fun e w'' ⟨v, he, hRw, hR, hT⟩ => ?_
          subst he
          exact hk v w'' hRw hR hT
    · rw [if_neg (by rw [hw]; exact Bool.false_ne_true)]
      exact hk undef w (hrr _ w) hJ hT

inductive BuildL (P : Program) (R : (Nat → Bool) → World → World → Prop) (ops : Array Oper) (I : (Nat → Bool) → World → Prop) (a0 : Act) (D : List Tmp) (A : List (List Nat)) (G : List (Nat × TFactL R) → Prop) : Nat → List Oper → List (Nat × TFactL R) → Prop
  | stop {k : Nat} {os : List Oper} {done : List (Nat × TFactL R)} (h : G done) : BuildL P R ops I a0 D A G k os done
  | step {k : Nat} {o : Oper} {os : List Oper} {done : List (Nat × TFactL R)} (S : TFactL R) (hx : S.idx = k) (h : ∀ l a w, Env a0 D a → I l w → l k = false → (∀ i ∈ A.getD k [], l i = true) → (∀ (i : Nat) (S' : TFactL R), i ∈ A.getD k [] → (i, S') ∈ done → S'.T a w) → opR P ops (R l) (I (upd l k)) o S.T a w)
      (hr : BuildL P R ops I a0 D A G (k + 1) os ((k, S) :: done)) : BuildL P R ops I a0 D A G k (o :: os) done

variable {G : List (Nat × TFactL R) → Prop} {k : Nat} {o : Oper} {os : List Oper} {done : List (Nat × TFactL R)} {d : Tmp} {v : Value}
theorem BuildL.use (hb : BuildL P R ops I a0 D A G k os done) (hk : k = done.length) (hwf : ∀ (i : Nat) (S : TFactL R), (i, S) ∈ done → (factsL done)[i]? = some S) (hxd : ∀ (i : Nat) (S : TFactL R), (factsL done)[i]? = some S → S.idx = i) : ∃ fin : List (Nat × TFactL R), G fin ∧ (∀ (i : Nat) (S : TFactL R), (factsL done)[i]? = some S → (factsL fin)[i]? = some S) ∧
    (∀ (i : Nat) (S : TFactL R), (i, S) ∈ fin → (factsL fin)[i]? = some S) ∧ (∀ (i : Nat) (S : TFactL R), (factsL fin)[i]? = some S → S.idx = i) ∧ done.length ≤ fin.length ∧
    ∀ (i : Nat) (o : Oper) (S : TFactL R), os[i]? = some o → (factsL fin)[k + i]? = some S → ∀ l a w, Env a0 D a → I l w → l (k + i) = false → (∀ j ∈ A.getD (k + i) [], l j = true) → (∀ (j : Nat) (S' : TFactL R), j ∈ A.getD (k + i) [] → (factsL fin)[j]? = some S' → S'.T a w) → opR P ops (R l) (I (upd l (k + i))) o S.T a w := by
  induction hb with
  | stop h =>
    rename_i k os done
    refine ⟨done, h, fun _ _ h => h, hwf, hxd, Nat.le_refl _, fun i o S _ hS => ?_⟩
    rw [List.getElem?_eq_none (by rw [Z0y]; omega)] at hS
    cases hS
  | step S hx h hr ih =>
    rename_i k o os done
    have hpre0 : ∀ (i : Nat) (S' : TFactL R), (factsL done)[i]? = some S' → (factsL ((k, S) :: done))[i]? = some S' := fun i S' hi => by
      have hlt := (List.getElem?_eq_some_iff.1 hi).1
      rw [Z1d, List.getElem?_append_left hlt]; exact hi
    obtain ⟨fin, hG, h1, hw, hxf, h2, h4⟩ := ih (by simp [hk]) (fun i S' hm => by
      rcases List.mem_cons.1 hm with he | hm
      · cases he
        rw [Z1d, hk, ← Z0y done]
        simp
      · exact hpre0 i S' (hwf i S' hm)) (fun i S' hi => by
      rw [Z1d] at hi
      by_cases hlt : i < (factsL done).length
      · rw [List.getElem?_append_left hlt] at hi
        exact hxd i S' hi
      · have hle := (List.getElem?_eq_some_iff.1 hi).1
        rw [List.length_append] at hle
        have hle : i < (factsL done).length + 1 := hle
        have : i = (factsL done).length := by omega
        subst this
        rw [List.getElem?_append_right (Nat.le_refl _), Nat.sub_self] at hi
        simp at hi
        subst hi
        rw [hx, hk, Z0y])
    refine ⟨fin, hG, fun i S' hi => h1 i S' (hpre0 i S' hi), hw, hxf, by simp at h2; omega, ?_⟩
    intro i o' S' hi hS
    cases i with
    | zero =>
      simp at hi
      subst hi
      have : (factsL fin)[k + 0]? = some S := h1 k S (by rw [Z1d, hk, ← Z0y done]; simp)
      rw [this] at hS
      cases hS
      intro l a w hE hR hl hA hF
      exact h l a w hE hR hl hA (fun j S' hj hd => hF j S' hj (h1 j S' (hpre0 j S' (hwf j S' hd))))
    | succ i =>
      have := h4 i o' S' (by simpa using hi) (by rwa [show k + 1 + i = k + (i + 1) by omega])
      intro l a w hE hR hl hA hF
      rw [show k + (i + 1) = k + 1 + i by omega] at hl hA ⊢
      exact this l a w hE hR hl hA (fun j S' hj hd => hF j S' (by rwa [show k + (i + 1) = k + 1 + i by omega]) hd)



/-- Each operation's fact, shown once, and the invariant kept. -/
theorem Z1s {id : Nat} {l : List Oper} {w : World} (Fs : List (TFactL R)) (hidx : ∀ (i : Nat) (S : TFactL R), Fs[i]? = some S → S.idx = i) (A : List (List Nat)) (D : List Tmp) (hf : P.follows .mixedOrders = true) (hok : okB l.toArray D A (Fs.map TFactL.L) Fs.length = true)
    (hm : (decide (Fs.length ≤ l.length) && (List.range l.length).all fun i => decide (i < Fs.length) || (List.range i).all fun j => (A.getD i []).contains j) = true)
    (hw0 : I (fun _ => false) w.drew)
    (hstep : ∀ (k : Nat) (o : Oper) (S : TFactL R), l[k]? = some o → Fs[k]? = some S → ∀ L a w, Env a0 D a → I L w → L k = false → (∀ i ∈ A.getD k [], L i = true) → (∀ (i : Nat) (S' : TFactL R), i ∈ A.getD k [] → Fs[i]? = some S' → S'.T a w) → opR P l.toArray (R L) (I (upd L k)) o S.T a w)
    (hrr : ∀ l w, R l w w)
    (hend : ∀ L a w, Env a0 D a → I L w → (∀ i, i < Fs.length → L i = true) → (∀ (i : Nat) (S : TFactL R), Fs[i]? = some S → S.T a w) → tailWp P l.toArray Q (l.length - Fs.length) Fs.length a w) :
    (Code.region id l.toArray true).wp P Q a0 w := by
  refine wp_region_any hf ?_
  simp only [Bool.and_eq_true, decide_eq_true_eq, List.all_eq_true, List.mem_range, Bool.or_eq_true, List.contains_iff_mem] at hm
  refine Z3y (a0 := a0) (I := I) (Fs := Fs) (A := A) (D := D) (m := Fs.length) hok hidx rfl (by simpa using hm.1) ?_ (by simpa using hstep) hrr (by simpa using hend) _ _ _ _ ?_ (by simp)
  · intro i h1 h2 j hj
    rcases hm.2 i (by simpa using h2) with h | h
    · omega
    · exact h j hj
  · refine ⟨by simp, ⟨rfl, rfl, fun _ _ => rfl⟩, ?_, ?_, ?_, ?_⟩
    · have e : (fun i => (Array.replicate l.toArray.size false).getD i false) = fun _ => false := funext fun i => Z1c _ _
      rw [e]
      exact hw0
    · intro j o hj
      rw [Z1c] at hj
      cases hj
    · intro i S hi
      rw [Z1c] at hi
      cases hi
    · intro i _
      exact Z1c _ _

def FinL (P : Program) (l : List Oper) (I : (Nat → Bool) → World → Prop) (a0 : Act) (D : List Tmp) (A : List (List Nat)) (Q : Exit → Act → World → Prop) (fin : List (Nat × TFactL R)) : Prop :=
  (okB l.toArray D A ((factsL fin).map TFactL.L) fin.length && (decide (fin.length ≤ l.length) && (List.range l.length).all fun i => decide (i < fin.length) || (List.range i).all fun j => (A.getD i []).contains j) && (l.drop fin.length).all fun o => o.guard.isNone) = true ∧
    ∀ L a w, Env a0 D a → I L w → (∀ i, i < fin.length → L i = true) → (∀ (i : Nat) (S : TFactL R), (i, S) ∈ fin → S.T a w) → tailOps P Q (l.drop fin.length) a w
theorem Z4y {id : Nat} {l : List Oper} {w : World} (R : (Nat → Bool) → World → World → Prop) (I : (Nat → Bool) → World → Prop) (A : List (List Nat)) (D : List Tmp) (hrr : ∀ l w, R l w w) (hw0 : I (fun _ => false) w.drew) (hf : P.follows .mixedOrders = true)
    (h : BuildL P R l.toArray I a0 D A (FinL P l I a0 D A Q) 0 l []) : (Code.region id l.toArray true).wp P Q a0 w := by
  obtain ⟨fin, ⟨hok, hG⟩, -, hw, hxf, -, hstep⟩ := h.use rfl (fun _ _ h => by cases h) (fun _ _ h => by simp [factsL] at h)
  have hlen := Z0y fin
  rw [Bool.and_eq_true, Bool.and_eq_true] at hok
  refine Z1s (I := I) (factsL fin) hxf A D hf (by rw [hlen]; exact hok.1.1) (by rw [hlen]; exact hok.1.2) hw0 (fun k o S h1 h2 L a w hE hR hl hA hF => by
    have := hstep k o S h1 (by simpa using h2) L a w hE hR (by simpa using hl) (by simpa using hA) (by simpa using hF)
    simpa using this) hrr (fun L a w hE hR hA hF => ?_)
  rw [hlen] at hA ⊢
  have := Z5o l (l.drop fin.length) fin.length rfl hok.2 a w (hG L a w hE hR hA (fun i S hm => hF i S (hw i S hm)))
  simpa using this

/-- The slot holds this value. -/
def detL (k : Nat) (d : Tmp) (v : Value) : TFactL R := ⟨k, [d], fun a _ => a.eval (.tmp d) = v, fun a a' _ h e => (Z11 (h d (by simp))).symm.trans e, fun _ _ _ _ _ _ e => e⟩
/-- The slot holds a value of which this holds, from then on. -/
def freshL (k : Nat) (d : Tmp) (φ : Value → World → Prop) (hφ : ∀ l v w w', l k = true → R l w w' → φ v w → φ v w') : TFactL R := ⟨k, [d], fun a w => φ (a.eval (.tmp d)) w, fun a a' w h e => by rw [← Z11 (h d (by simp))]; exact e, fun l a w w' hl hR e => hφ l _ _ _ hl hR e⟩
theorem BuildL.det (d : Tmp) {v : Value} (hrr : ∀ l w, R l w w) (hI : ∀ l w, I l w → I (upd l k) w) (hd : o.dst = some d) (hn : Nat.blt d a0.tmps.size = true) (hg : o.guard = none)
    (h : ∀ l a w, Env a0 D a → I l w → (∀ (i : Nat) (S' : TFactL R), i ∈ A.getD k [] → (i, S') ∈ done → S'.T a w) → (execOp a.eval o).run P w = .ok (.value v) w)
    (hr : BuildL P R ops I a0 D A G (k + 1) os ((k, detL k d v) :: done)) : BuildL P R ops I a0 D A G k (o :: os) done :=
  .step _ rfl (fun l a w hE hR _ _ hF => .inl ⟨Z0h hg, by
    unfold YieldsR
    rw [h l a w hE hR hF]
    exact ⟨hrr l w, hI l w hR, by rw [hd]; exact Z0g (by rw [hE.size]; exact Nat.le_of_ble_eq_true hn)⟩⟩) hr
theorem BuildL.call (d : Tmp) {v : Value} {f : FuncId} {args : Array Value} (hd : o.dst = some d) (hn : Nat.blt d a0.tmps.size = true) (hg : o.guard = none)
    (h : ∀ l a w, Env a0 D a → I l w → (∀ (i : Nat) (S' : TFactL R), i ∈ A.getD k [] → (i, S') ∈ done → S'.T a w) → (execOp a.eval o).run P w = .ok (.enter f args) w)
    (hc : ∀ l w, I l w → l k = false → (∀ i ∈ A.getD k [], l i = true) → Calls P f args w fun e w' => e = .returned v ∧ R l w w' ∧ I (upd l k) w')
    (hr : BuildL P R ops I a0 D A G (k + 1) os ((k, detL k d v) :: done)) : BuildL P R ops I a0 D A G k (o :: os) done :=
  .step _ rfl (fun l a w hE hR hl hA hF => .inl ⟨Z0h hg, by
    unfold YieldsR
    rw [h l a w hE hR hF]
    exact (hc l w hR hl hA).mono fun e w' ⟨he, hRw, hI⟩ => ⟨v, he, hRw, hI, by rw [hd]; exact Z0g (by rw [hE.size]; exact Nat.le_of_ble_eq_true hn)⟩⟩) hr
/-- One that makes something of its own. -/
theorem BuildL.new (d : Tmp) (φ : Value → World → Prop) (hφ : ∀ l v w w', l k = true → R l w w' → φ v w → φ v w') (hd : o.dst = some d) (hn : Nat.blt d a0.tmps.size = true) (hg : o.guard = none)
    (h : ∀ l a w, Env a0 D a → I l w → l k = false → (∀ i ∈ A.getD k [], l i = true) → (∀ (i : Nat) (S' : TFactL R), i ∈ A.getD k [] → (i, S') ∈ done → S'.T a w) → ∃ v w', (execOp a.eval o).run P w = .ok (.value v) w' ∧ R l w w' ∧ I (upd l k) w' ∧ φ v w')
    (hr : BuildL P R ops I a0 D A G (k + 1) os ((k, freshL k d φ hφ) :: done)) : BuildL P R ops I a0 D A G k (o :: os) done :=
  .step _ rfl (fun l a w hE hR hl hA hF => by
    obtain ⟨v, w', h1, h2, h3, h4⟩ := h l a w hE hR hl hA hF
    refine .inl ⟨Z0h hg, ?_⟩
    unfold YieldsR
    rw [h1]
    exact ⟨h2, h3, by rw [hd]; show φ ((a.put (some d) v).eval (.tmp d)) w'; rw [Z0g (by rw [hE.size]; exact Nat.le_of_ble_eq_true hn)]; exact h4⟩) hr
end
end Go.Proofs.YtgdlnfljfiageaaDoor

/- A range over a function, by facts: the record and the block of the rounds' deferred calls as things; walks within a round. No function of the program in sight. -/
namespace Go.Proofs.YtgdlnfljfiageaaDoor
set_option linter.unusedVariables false
set_option linter.unusedSimpArgs false
open Go.RowKit

/-- Every function may be called; in this round. -/
abbrev FR (ro : Option Nat) : Fence := { Fence.wide with round := ro }
section
variable {P : Program} {Q Q' : Exit → Act → World → Prop} {a a0 : Act} {w w' : World} {ro : Option Nat} {o : Oper} {ops : Array Oper} {rest : List Oper} {next next' : Act → World → Prop} {R : Ending → World → Prop}
theorem Z2s {f : FuncId} {args : Array Value} (h : Calls P f args w R) : CallsIn (FR ro) 0 P f args w R := callsIn_wide.2 h
theorem Z5x {row : String} {args : Array Value} {S : Value → World → Prop} (h : Rows P row args w S) : RowsIn (FR ro) 0 P row args w S := fun c cs _ => by
  obtain ⟨v, w', r, s⟩ := h c cs
  exact ⟨v, w', r, (stepsIn_wide.2 s : StepsIn (Machine.fenced P Fence.wide) P _ _)⟩
def noDef (o : Oper) : Bool := match o.op with
  | .defer _ => false
  | _ => true
theorem Z4k (h : noDef o = true) : ∀ c, o.op ≠ .defer c := fun c e => by
  unfold noDef at h
  rw [e] at h
  cases h
theorem upon_in (hn : ∀ a w, next a w → next' a w) (hq : ∀ c a w, Q (.panic c) a w → Q' (.panic c) a w) (hl : LetsOut Q → LetsOut Q') {r : Result Next} (h : o.upon P a next Q r) : o.uponIn (FR ro) 0 P a next' Q' r := by
  unfold Oper.upon at h
  split at h
  · exact hn _ _ h
  · exact hn _ _ h
  · exact hn _ _ h
  · refine ⟨(fun e => by cases e), Z2s (h.mono fun e w' hw => ?_)⟩
    cases e with
    | returned v => exact hn _ _ hw
    | panicked c => exact hq _ _ _ hw
    | outgrown => exact hl hw
  · exact ⟨(fun e => by cases e), Z5x (h.mono fun v w' hw => hn _ _ hw)⟩
  · exact hq _ _ _ h
  · exact h.elim
theorem op_in (hd : noDef o = true) (hn : ∀ a w, next a w → next' a w) (hq : ∀ c a w, Q (.panic c) a w → Q' (.panic c) a w) (hl : LetsOut Q → LetsOut Q') (h : o.wp P a w next Q) : o.wpIn (FR ro) 0 P a w next' Q' := by
  refine ⟨fun _ _ => trivial, ?_⟩
  rw [Oper.semAt_eq _ _ _ (Z4k hd)]
  exact upon_in hn hq hl h
/-- One operation, as everywhere. -/
theorem Z0v (hd : noDef o = true) (hL : ¬ LetsOut Q) (h : wpList P ops (Exit.then (wpListIn (FR ro) 0 P ops Q rest) Q) [o] a w) : wpListIn (FR ro) 0 P ops Q (o :: rest) a w := by
  unfold wpList at h
  unfold wpListIn
  split at h
  · rename_i hw
    rw [if_pos hw]
    rcases h with h | ⟨_, h⟩
    · exact op_in hd (fun _ _ h => h) (fun _ _ _ h => h) (fun h => h) h
    · exact absurd h hL
  · rename_i hw
    rw [if_neg hw]
    exact ⟨fun _ _ => trivial, h⟩
theorem Z5d {id : Nat} {l : List Oper} (h : wpListIn (FR none) 0 P l.toArray Q l a w) : (Code.region id l.toArray false).wp P Q a w := wpIn_wide.1 (wpIn_region_lit (F := FR none) (n := 0) h)
/-- The call of yield. -/
theorem Z59 {l : Nat} {fn : FuncId} {tmps : Array Value} {assign body : Code} (d : Tmp) {n : Nat} {D : List Tmp} (hE : Env a0 D a) (k : Fr n a0) (hd : o.dst = some d) (hn : Nat.blt d n = true) (hD : D.contains d = true) (hg : o.guard = none)
    (hrun : (execOp a.eval o).run P w = .ok (.round l fn tmps assign body) w) (hdf : noDef o = true)
    (hR : RoundIn (FR ro) 0 P l fn tmps assign body w R)
    (hk : ∀ e w'', R e w'' → ∃ v, e = .returned v ∧ ∀ a', Env a0 D a' → a'.eval (.tmp d) = v → (∀ t, Nat.beq t d = false → a'.eval (.tmp t) = a.eval (.tmp t)) → wpListIn (FR ro) 0 P ops Q rest a' w'') : wpListIn (FR ro) 0 P ops Q (o :: rest) a w := by
  unfold wpListIn
  have hw : Region.wanted o (yielded ops a.tmps) = true := by unfold Region.wanted; rw [hg]
  rw [if_pos hw]
  refine ⟨fun _ _ => trivial, ?_⟩
  rw [Oper.semAt_eq _ _ _ (Z4k hdf), hrun]
  refine ⟨(fun e => by cases e), hR.mono fun e w'' hw => ?_⟩
  obtain ⟨v, rfl, hk⟩ := hk e w'' hw
  rw [hd]
  exact hk _ (hE.put hD v) (Z0g (by rw [hE.size, k.size]; exact Nat.le_of_ble_eq_true hn)) (fun t ht => Z0r ht v)
theorem condR_t {l0 : Nat} {c : Operand} {x y : Code} {v : Value} (hc : a.eval c = v) (hv : v = .bool true) (h : x.wpIn (FR (some l0)) 0 P Q a w) : (Code.cond c x y).wpIn (FR (some l0)) 0 P Q a w := wpIn_cond_true (hc.trans hv) h
theorem condR_f {l0 : Nat} {c : Operand} {x y : Code} {v : Value} (hc : a.eval c = v) (hv : v = .bool false) (h : y.wpIn (FR (some l0)) 0 P Q a w) : (Code.cond c x y).wpIn (FR (some l0)) 0 P Q a w := wpIn_cond_false (hc.trans hv) h
/-! A deferred call more, at the end. -/
def mrk (m : Deferred) (a : Act) : Act := { a with defers := a.defers ++ [m] }
theorem Z6y {m : Deferred} {r : Result Next} (hn : ∀ a w, next a w → next' (mrk m a) w) (h : o.upon P a next (fun e a' w' => Q e (mrk m a') w') r) (hL : ¬ LetsOut Q) : o.upon P (mrk m a) next' Q r := by
  unfold Oper.upon at h
  have hp : ∀ v, (mrk m a).put o.dst v = mrk m (a.put o.dst v) := fun v => by cases hd : o.dst <;> rfl
  split at h
  · show next' _ _
    rw [hp]
    exact hn _ _ h
  · show next' _ _
    rw [hp]
    exact hn _ _ h
  · rename_i d w'
    show next' _ _
    have : ({ mrk m a with defers := d :: (mrk m a).defers } : Act).put o.dst undef = mrk m (({ a with defers := d :: a.defers } : Act).put o.dst undef) := by cases hd : o.dst <;> rfl
    rw [this]
    exact hn _ _ h
  · refine Calls.mono h fun e w' hw => ?_
    cases e with
    | returned v =>
      show next' _ _
      rw [hp]
      exact hn _ _ hw
    | panicked c => exact hw
    | outgrown =>
      obtain ⟨a', w'', h2⟩ := hw
      exact absurd ⟨_, _, h2⟩ hL
  · refine Rows.mono h fun v w' hw => ?_
    show next' _ _
    rw [hp]
    exact hn _ _ hw
  · exact h
  · exact h.elim
theorem Z33 {m : Deferred} (hL : ¬ LetsOut Q) : ∀ (l : List Oper) (a : Act) (w : World), wpList P ops (fun e a' w' => Q e (mrk m a') w') l a w → wpList P ops Q l (mrk m a) w
  | [], _, _, h => h
  | o :: l, a, w, h => by
    unfold wpList at h ⊢
    split at h
    · rename_i hw
      rw [if_pos (show Region.wanted o (yielded ops (mrk m a).tmps) = true from hw)]
      rcases h with h | ⟨_, a', w', h⟩
      · exact .inl (Z6y (fun a w h => Z33 hL l a w h) h hL)
      · exact absurd ⟨_, _, h⟩ hL
    · rename_i hw
      rw [if_neg (show ¬ Region.wanted o (yielded ops (mrk m a).tmps) = true from hw)]
      have hp : (mrk m a).put o.dst undef = mrk m (a.put o.dst undef) := by cases hd : o.dst <;> rfl
      rw [hp]
      exact Z33 hL l _ _ h
theorem Z4z {m : Deferred} {id : Nat} {l : List Oper} (hL : ¬ LetsOut Q) (h : wpList P l.toArray (fun e a' w' => Q e (mrk m a') w') l a w) : (Code.region id l.toArray false).wp P Q (mrk m a) w := wp_region_lit (Z33 hL l a w h)
/-! The record, as a thing. -/
def tObj (b : Nat) (o : Obj) : Thing where
  foot := [b]
  holds := fun w => w.heap[b]? = some o
  keep := fun w w' _ h hb => (h b (by simp)).trans hb
  lt := fun w h i hi => by simp at hi; subst hi; exact (Array.getElem?_eq_some_iff.1 h).1
variable {H : Nat} {A : World} {L : List Thing}
theorem OwnT.newO (h : OwnT H A L w) (o : Obj) : OwnT H A (tObj w.heap.size o :: L) (w.alloc o) :=
  h.cons (Ext.alloc w _) (tObj w.heap.size o) (World.alloc_heap_new w o) (fun i hi => by simp [tObj] at hi; omega)
theorem OwnT.putO {b : Nat} {o : Obj} (h : OwnT H A (tObj b o :: L) w) (o' : Obj) : OwnT H A (tObj b o' :: L) (w.putObj b o') :=
  h.call (F := [b]) (Chg.of_grown (grownBy_putObj' w b o')) (fun i hi => hi) (tObj b o') (World.putObj_heap_same (h.lt (T := tObj b o) (by simp) (i := b) (by simp [tObj]))) (fun i hi => .inl hi)
/-- The block of the rounds' deferred calls, the record: these two. -/
abbrev tDf (D : Nat) : Thing := tObj D (.deferred (some []))
abbrev mkD (D : Nat) : Deferred := { target := .collected D, args := #[] }
/-- The statement. -/
theorem Z5e {g : Operand} {ps : Array Tmp} {assign body : Code} {gf : FuncId} {lb : Array Value} (O : OwnT H A L w) (hk : a.defers = []) (hg : a.eval g = .func (.func gf) #[] lb) (eg : ∀ args w, (callFunc gf args).run P w = .ok (.enter gf args) w)
    (h : ∀ (fn : FuncId) (l D : Nat) (w1 : World) (rec : LoopState → Option Code → Loop), (∀ s p, rec s p = { state := s, pending := p, fn, tmps := a.tmps, params := ps, assign, body, defers := D }) → OwnT H A (tObj l (.loop (rec .ready none)) :: tDf D :: L) w1 →
      Calls P gf (#[.func (.yield l) #[] #[]] ++ lb) w1 fun e w3 => (∃ v, e = .returned v) ∧ ∃ st pe L', st ≠ LoopState.busy ∧ OwnT H A (tObj l (.loop (rec st pe)) :: L') w3 ∧
        ∀ w4, OwnT H A L' w4 → match (pe : Option Code) with
          | none => Q .normal (mrk (mkD D) a) w4
          | some c => c.wp P Q (mrk (mkD D) a) w4) :
    (Code.rangeFunc g ps assign body).wp P Q a w := by
  refine wpIn_wide.1 (wpIn_rangeFunc (F := FR none) (n := 0) ?_)
  intro fn _
  obtain ⟨rec, hrec⟩ : ∃ rec : LoopState → Option Code → Loop, rec = fun st pe => { state := st, pending := pe, fn, tmps := a.tmps, params := ps, assign, body, defers := w.heap.size } := ⟨_, rfl⟩
  have O1 := ((O.newO (.deferred (some []))).newO (.loop (rec .ready none)))
  have hsz : (w.alloc (.deferred (some []))).heap.size = w.heap.size + 1 := by simp
  rw [hsz] at O1
  have hc := h fn _ _ _ rec (fun s p => by rw [hrec]) O1
  have he := run_enterLoop_outer (P := P) (w := w) fn a.tmps ps assign body
  have hr0 : rec .ready none = { state := .ready, pending := none, fn, tmps := a.tmps, params := ps, assign, body, defers := w.heap.size } := by rw [hrec]
  rw [← hr0] at he
  obtain ⟨W1, hW1⟩ : ∃ W1, (w.alloc (.deferred (some []))).alloc (.loop (rec .ready none)) = W1 := ⟨_, rfl⟩
  rw [hW1] at he hc
  have hpost : ∀ e w3, ((∃ v, e = Ending.returned v) ∧ ∃ st pe L', st ≠ LoopState.busy ∧ OwnT H A (tObj (w.heap.size + 1) (.loop (rec st pe)) :: L') w3 ∧
        ∀ w4, OwnT H A L' w4 → match (pe : Option Code) with
          | none => Q .normal (mrk (mkD w.heap.size) a) w4
          | some c => c.wp P Q (mrk (mkD w.heap.size) a) w4) → rangePost (FR none) 0 P (w.heap.size + 1) Q { a with defers := [mkD w.heap.size] ++ a.defers } e w3 := by
    rintro e w3 ⟨⟨v, rfl⟩, st, pe, L', hst, O3, hw⟩
    have hl : w3.heap[w.heap.size + 1]? = some (.loop (rec st pe)) := O3.t0
    have hend := run_endLoop (P := P) hl (by rw [hrec]; exact hst)
    have O4 := (OwnT.putO O3 (.loop { rec st pe with state := .exhausted })).tail
    have hq := hw _ O4
    have hact : ({ a with defers := [mkD w.heap.size] ++ a.defers } : Act) = mrk (mkD w.heap.size) a := by unfold mrk; rw [hk]; rfl
    rw [hact]
    refine ⟨pe, _, hend.trans (congrArg (fun z => Result.ok z _) (show (rec st pe).pending = pe by rw [hrec])), ?_⟩
    cases pe with
    | none => exact hq
    | some c => exact wpIn_wide.2 hq
  have hcall := Z2s (ro := none) (Calls.mono hc hpost)
  clear hc hpost h
  have hres : (resolve a.eval (rangeCall g (w.heap.size + 1)) 0).run P W1 = .ok { target := .fn (.func gf) lb, args := #[.func (.yield (w.heap.size + 1)) #[] #[]] } W1 := by
    simp only [resolve, hg]
    simp [go_sem]
  have hinv : (invoke (.fn (.func gf) lb) #[.func (.yield (w.heap.size + 1)) #[] #[]]).run P W1 = .ok (.enter gf (#[.func (.yield (w.heap.size + 1)) #[] #[]] ++ lb)) W1 := by
    simp [invoke, go_sem, eg]
  exact ⟨_, _, _, _, _, _, _, _, he, hres, fun _ _ => trivial, hinv, fun e => absurd e (by decide), hcall⟩
/-- A round begins. -/
theorem begin_F {l : Nat} {r : Loop} {body : Code} {a1 : Act} (O : OwnT H A (tObj l (.loop r) :: L) w) (hr : r.state = .ready) (h : ∀ w2, OwnT H A (tObj l (.loop { r with state := .busy }) :: L) w2 → body.wpIn (FR ro) 0 P Q a1 w2) :
    ∃ w2, (Instr.beginRound l).run P w = .ok () w2 ∧ body.wpIn (FR ro) 0 P Q a1 w2 :=
  ⟨_, run_beginRound O.t0 hr, h _ (O.putO _)⟩
/-- A round ends. -/
theorem end_F {l : Nat} {r : Loop} (jump : Option Code) (O : OwnT H A (tObj l (.loop r) :: L) w) (h : ∀ w', OwnT H A (tObj l (.loop { r with state := if jump.isNone then .ready else .done, pending := jump }) :: L) w' → R (.returned (.bool jump.isNone)) w') :
    ∃ v w', (Instr.endRound l jump).run P w = .ok v w' ∧ R (.returned v) w' :=
  ⟨_, _, run_endRound jump O.t0, h _ (O.putO _)⟩
theorem end_n {l : Nat} {r : Loop} (O : OwnT H A (tObj l (.loop r) :: L) w) (h : ∀ w', OwnT H A (tObj l (.loop { r with state := .ready, pending := none }) :: L) w' → R (.returned (.bool true)) w') : roundPost P l R .normal a w := end_F none O h
/-- The frame at a round's start. -/
theorem Z3x {n : Nat} {t : Tmp} {x : Value} (k : Fr n a) (ht : Nat.blt t n = true) {G : Act → Prop}
    (h : ∀ b, Fr n b → b.eval (.tmp t) = x → (∀ u, Nat.beq u t = false → b.eval (.tmp u) = a.eval (.tmp u)) → G b) : G { tmps := ((#[t] : Array Tmp).zip #[x]).foldl (fun s (p, v) => s.setIfInBounds p v) a.tmps, defers := [] } := by
  have e : (((#[t] : Array Tmp).zip #[x]).foldl (fun s (p, v) => s.setIfInBounds p v) a.tmps) = (a.put (some t) x).tmps := by simp [Act.put]
  rw [e]
  refine h _ ⟨by simp [Act.put, k.size], rfl⟩ (Z0g (a := a) (by rw [k.size]; exact Nat.le_of_ble_eq_true ht)) (fun u hu => Z0r (a := a) hu x)
theorem Z7w {f : FuncId} {fn : Func} {c : Code} {args : Array Value} (hf : P.funcs[f]? = some fn) (hb : fn.body = some c) (n : Nat) (hn : fn.ntmps = n) (hle : Nat.ble args.size n = true)
    (h : ∀ a, Fr n a → (∀ i v, args[i]? = some v → a.eval (.tmp i) = v) → c.wp P (bodyPostM (FR none) 0 P fn R) a w) : Calls P f args w R := by
  refine callsIn_wide.1 (callsIn_of_wp_marks (F := FR none) (n := 0) hf hb trivial (wpIn_wide.2 (h _ ⟨?_, rfl⟩ fun i v hv => ?_)) rfl)
  · have := Nat.le_of_ble_eq_true hle
    subst hn
    simp only [Array.size_append, Array.size_replicate]
    omega
  · have hi : i < args.size := (Array.getElem?_eq_some_iff.1 hv).1
    rw [Z0u, Array.getD_eq_getD_getElem?, Array.getElem?_append_left hi, hv]
    rfl
/-- The function returns, its mark behind it. -/
theorem ret_M {D : Nat} {fn : Func} {n : Nat} (k : Fr n a) (O : OwnT H A (tDf D :: L) w) (h : ∀ w', OwnT H A L w' → ∃ v, (results fn a.tmps).run P w' = .ok v w' ∧ R (.returned v) w') : bodyPostM (FR none) 0 P fn R .ret (mrk (mkD D) a) w := by
  show LeavesInM (FR none) 0 P fn a.tmps R (a.defers ++ [mkD D]) .returning w
  rw [k.defers]
  refine ⟨by simp, .inl ⟨_, _, rfl, run_takeDeferred O.t0, ?_⟩⟩
  exact h _ (O.putO _).tail
end
end Go.Proofs.YtgdlnfljfiageaaDoor
