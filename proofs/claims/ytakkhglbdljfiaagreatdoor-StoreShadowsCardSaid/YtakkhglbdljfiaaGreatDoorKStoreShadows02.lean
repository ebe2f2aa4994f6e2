/- A region that draws its order, holds calls that write and makes things: an invariant of the world by what is done, a relation that keeps facts; its last operations may be left, one behind the other. No function of the program in sight. -/
import Derived.Test.YtakkhglbdljfiaaGreatDoorKStoreShadows01
namespace Go.Proofs.YtakkhglbdljfiaaGreatDoor
set_option linter.unusedVariables false
set_option linter.unusedSimpArgs false
open Go.RowKit

def YieldsR (P : Program) (R : World → World → Prop) (J : World → Prop) (o : Oper) (T : Act → World → Prop) (a : Act) (w : World) : Prop :=
  match (execOp a.eval o).run P w with
  | .ok (.value v) w' => R w w' ∧ J w' ∧ T (a.put o.dst v) w'
  | .ok .skip w' => R w w' ∧ J w' ∧ T (a.put o.dst undef) w'
  | .ok (.enter f args) w' => Calls P f args w' (fun e w'' => ∃ v, e = .returned v ∧ R w w'' ∧ J w'' ∧ T (a.put o.dst v) w'')
  | _ => False
def opR (P : Program) (ops : Array Oper) (R : World → World → Prop) (J : World → Prop) (o : Oper) (T : Act → World → Prop) (a : Act) (w : World) : Prop :=
  (Region.wanted o (yielded ops a.tmps) = true ∧ YieldsR P R J o T a w) ∨ (Region.wanted o (yielded ops a.tmps) = false ∧ J w ∧ T (a.put o.dst undef) w)
/-- The operations that are left, one behind the other. -/
def tailWp (P : Program) (ops : Array Oper) (Q : Exit → Act → World → Prop) : Nat → Nat → Act → World → Prop
  | 0, _, a, w => Q .normal a w
  | n + 1, i, a, w => wpOp P ops Q i (fun a w => tailWp P ops Q n (i + 1) a w) a w

section
variable {P : Program} {R : World → World → Prop} {ops : Array Oper} {I : (Nat → Bool) → World → Prop} {a0 : Act} {D : List Tmp} {A : List (List Nat)} {Fs : List (TFact R)} {m : Nat} {Q : Exit → Act → World → Prop}

structure RInv (ops : Array Oper) (I : (Nat → Bool) → World → Prop) (a0 : Act) (D : List Tmp) (Fs : List (TFact R)) (m : Nat) (listed : Array Bool) (a : Act) (w : World) : Prop where
  sz : listed.size = ops.size
  env : Env a0 D a
  inv : I (fun i => listed.getD i false) w
  closed : ∀ j o, listed.getD j false = true → ops[j]? = some o → ∀ e ∈ o.after, Region.binds .any e = true → listed.getD e.on false = true
  typed : ∀ i S, listed.getD i false = true → Fs[i]? = some S → S.T a w
  un : ∀ i, m ≤ i → listed.getD i false = false

theorem Z2p {listed : Array Bool} {i : Nat} {o : Oper} (his : i < listed.size) (ho : ops[i]? = some o) (hpre : ∀ e ∈ o.after, Region.binds .any e = true → listed.getD e.on false = true)
    (hc : ∀ j o, listed.getD j false = true → ops[j]? = some o → ∀ e ∈ o.after, Region.binds .any e = true → listed.getD e.on false = true) :
    ∀ j o, (listed.setIfInBounds i true).getD j false = true → ops[j]? = some o → ∀ e ∈ o.after, Region.binds .any e = true → (listed.setIfInBounds i true).getD e.on false = true := by
  intro j oj hj hoj e he hb
  by_cases hji : i = j
  · subst hji
    rw [ho] at hoj
    cases hoj
    by_cases hei : i = e.on
    · rw [← hei]; exact Z14 his _
    · rw [getD_set_ne false hei]; exact hpre e he hb
  · rw [getD_set_ne false hji] at hj
    by_cases hei : i = e.on
    · rw [← hei]; exact Z14 his _
    · rw [getD_set_ne false hei]; exact hc j oj hj hoj e he hb
theorem Z2q (listed : Array Bool) (hs : listed.size = ops.size) (h0 : listed.toList.count false = 0) : Region.ready .any ops listed = [] ∧ ∀ i, i < ops.size → listed.getD i false = true := by
  rw [List.count_eq_zero] at h0
  have hx : ∀ i, i < ops.size → listed.getD i false = true := by
    intro i hi
    have hi' : i < listed.size := by omega
    have : listed[i] ∈ listed.toList := by simp
    have hne : listed[i] ≠ false := fun e => h0 (e ▸ this)
    simpa [hi'] using hne
  refine ⟨?_, hx⟩
  rw [List.eq_nil_iff_forall_not_mem]
  intro j hj
  obtain ⟨h1, o, ho, _⟩ := mem_ready.1 hj
  have hjs : j < ops.size := (Array.getElem?_eq_some_iff.1 ho).1
  have := hx j hjs
  rw [Z0k (by omega) false true] at this
  rw [this] at h1
  cases h1
theorem Z2f (hok : okB ops D A (Fs.map TFact.L) m = true) (listed : Array Bool) (hs : listed.size = ops.size) (fuel : Nat) (hcnt : listed.toList.count false = fuel + 1) : ¬ Region.ready .any ops listed = [] := by
  intro hr
  have : ∀ k, k < ops.size → listed.getD k false = true := by
    intro k
    induction k using Nat.strongRecOn with
    | _ k ihk =>
      intro hk
      cases hl : listed.getD k false with
      | true => rfl
      | false =>
        have ho : ops[k]? = some ops[k] := Array.getElem?_eq_getElem hk
        have : k ∈ Region.ready .any ops listed := mem_ready.2 ⟨by rw [Z0k (by omega) true false]; exact hl, _, ho, fun e he hb => by
          have hlt := (Z4j hok ho).1 e he hb
          exact ihk e.on hlt (by omega)⟩
        rw [hr] at this
        cases this
  have hz : listed.toList.count false = 0 := by
    rw [List.count_eq_zero]
    intro hmem
    obtain ⟨i, hi, he⟩ := List.getElem_of_mem hmem
    have hi' : i < listed.size := by simpa using hi
    have := this i (by omega)
    simp [hi'] at this
    simp [this] at he
  omega

theorem Z5o (hok : okB ops D A (Fs.map TFact.L) m = true) (hm : ∀ i, m ≤ i → i < ops.size → ∀ j, j < i → j ∈ A.getD i []) :
    ∀ (fuel i : Nat) (listed : Array Bool) (a : Act) (w : World), m ≤ i → i ≤ ops.size → listed.size = ops.size → (∀ j, j < i → listed.getD j false = true) → (∀ j, i ≤ j → listed.getD j false = false) →
      (∀ j o, listed.getD j false = true → ops[j]? = some o → ∀ e ∈ o.after, Region.binds .any e = true → listed.getD e.on false = true) →
      listed.toList.count false = fuel → tailWp P ops Q (ops.size - i) i a w → wpAny P .any ops Q fuel listed a w := by
  intro fuel
  induction fuel with
  | zero =>
    intro i listed a w hmi hi hs h1 h2 hc h0 ht
    obtain ⟨hr, hx⟩ := Z2q (ops := ops) listed hs h0
    have : i = ops.size := by
      by_cases h : i < ops.size
      · have := hx i h
        rw [h2 i (Nat.le_refl _)] at this
        cases this
      · omega
    subst this
    rw [Nat.sub_self] at ht
    exact ⟨hr, ht⟩
  | succ fuel ih =>
    intro i listed a w hmi hi hs h1 h2 hc hcnt ht
    refine ⟨fun hr => (Z2f hok listed hs fuel hcnt hr).elim, fun k hk => ?_⟩
    obtain ⟨hun, o, ho, hpre⟩ := mem_ready.1 hk
    have hks : k < ops.size := (Array.getElem?_eq_some_iff.1 ho).1
    have hanc := Z17 hok hc hs k o ho hpre
    have hun' : listed.getD k false = false := by rw [Z0k (by omega) false true]; exact hun
    have hik : i ≤ k := by
      by_cases h : k < i
      · rw [h1 k h] at hun'; cases hun'
      · omega
    have hki : k = i := by
      by_cases h : i < k
      · have := hanc i (hm k (by omega) hks i h)
        rw [h2 i (Nat.le_refl _)] at this
        cases this
      · omega
    subst hki
    rw [show ops.size - k = (ops.size - (k + 1)) + 1 by omega] at ht
    refine wpOp_mono (fun a' w' hq => ?_) ht
    refine ih (k + 1) _ a' w' (by omega) (by omega) (by simpa using hs) (fun j hj => ?_) (fun j hj => ?_) (Z2p (by omega) ho hpre hc) (count_set (by omega) hun _ hcnt) hq
    · by_cases h : k = j
      · subst h; exact Z14 (by omega) _
      · rw [getD_set_ne false h]; exact h1 j (by omega)
    · have : k ≠ j := by omega
      rw [getD_set_ne false this]
      exact h2 j (by omega)

theorem Z7d (hok : okB ops D A (Fs.map TFact.L) m = true) (hlen : Fs.length = m) (hms : m ≤ ops.size) (hm : ∀ i, m ≤ i → i < ops.size → ∀ j, j < i → j ∈ A.getD i [])
    (hstep : ∀ (k : Nat) (o : Oper) (S : TFact R), ops[k]? = some o → Fs[k]? = some S → ∀ l a w, Env a0 D a → I l w → l k = false → (∀ i ∈ A.getD k [], l i = true) → (∀ (i : Nat) (S' : TFact R), i ∈ A.getD k [] → Fs[i]? = some S' → S'.T a w) → opR P ops R (I (upd l k)) o S.T a w)
    (hrr : ∀ w, R w w)
    (hend : ∀ l a w, Env a0 D a → I l w → (∀ i, i < m → l i = true) → (∀ (i : Nat) (S : TFact R), Fs[i]? = some S → S.T a w) → tailWp P ops Q (ops.size - m) m a w) :
    ∀ (fuel : Nat) (listed : Array Bool) (a : Act) (w : World), RInv ops I a0 D Fs m listed a w → listed.toList.count false = fuel → wpAny P .any ops Q fuel listed a w := by
  intro fuel
  induction fuel with
  | zero =>
    intro listed a w hI h0
    obtain ⟨hr, hx⟩ := Z2q (ops := ops) listed hI.sz h0
    have hmm : m = ops.size := by
      by_cases h : m < ops.size
      · have := hx m h
        rw [hI.un m (Nat.le_refl _)] at this
        cases this
      · omega
    refine ⟨hr, ?_⟩
    have := hend _ a w hI.env hI.inv (fun i hi => hx i (by omega)) (fun i S hS => hI.typed i S (hx i (by have := (List.getElem?_eq_some_iff.1 hS).1; omega)) hS)
    rwa [show ops.size - m = 0 by omega] at this
  | succ fuel ih =>
    intro listed a w hI hcnt
    by_cases hall : ∀ j, j < m → listed.getD j false = true
    · exact Z5o hok hm (fuel + 1) m listed a w (Nat.le_refl _) hms hI.sz hall hI.un hI.closed hcnt (hend _ a w hI.env hI.inv hall (fun i S hS => hI.typed i S (hall i (by have := (List.getElem?_eq_some_iff.1 hS).1; omega)) hS))
    refine ⟨fun hr => (Z2f hok listed hI.sz fuel hcnt hr).elim, fun i hi => ?_⟩
    obtain ⟨hun, o, ho, hpre⟩ := mem_ready.1 hi
    have hio : i < ops.size := (Array.getElem?_eq_some_iff.1 ho).1
    have his : i < listed.size := by have := hI.sz; omega
    have hanc := Z17 hok hI.closed hI.sz i o ho hpre
    have him : i < m := by
      by_cases h : i < m
      · exact h
      · exact (hall (fun j hj => hanc j (hm i (by omega) hio j (by omega)))).elim
    obtain ⟨S, hS⟩ : ∃ S, Fs[i]? = some S := ⟨_, List.getElem?_eq_getElem (by omega)⟩
    have hst := hstep i o S ho hS _ a w hI.env hI.inv (by rw [Z0k his false true]; exact hun) hanc (fun j S' hj hS' => hI.typed j S' (hanc j hj) hS')
    have hnext : ∀ v w', R w w' → I (upd (fun j => listed.getD j false) i) w' → S.T (a.put o.dst v) w' → RInv ops I a0 D Fs m (listed.setIfInBounds i true) (a.put o.dst v) w' := by
      intro v w' hRw hR hT
      obtain ⟨_, _, h3⟩ := Z4j hok ho
      have h3 := h3 him
      refine ⟨by simpa using hI.sz, ⟨?_, ?_, ?_⟩, by rw [Z3g his]; exact hR, Z2p his ho hpre hI.closed, ?_, ?_⟩
      · rw [← hI.env.size]; cases hd : o.dst <;> simp [Act.put]
      · rw [← hI.env.defers]; cases hd : o.dst <;> simp [Act.put]
      · intro t ht
        rw [← hI.env.keep t ht]
        cases hd : o.dst with
        | none => simp [Act.put]
        | some d =>
          have := (h3 d hd).1
          have hne : d ≠ t := fun e => ht (e ▸ this)
          simp [Act.put, Array.getElem?_setIfInBounds_ne hne]
      · intro j S' hj hS'
        by_cases hji : i = j
        · subst hji
          rw [hS] at hS'
          cases hS'
          exact hT
        · rw [getD_set_ne false hji] at hj
          have hold := S'.mono _ w w' hRw (hI.typed j S' hj hS')
          refine S'.loc _ _ _ (fun t ht => ?_) hold
          cases hd : o.dst with
          | none => simp [Act.put]
          | some d =>
            have hja : i ∉ A.getD j [] := by
              intro hmem
              obtain ⟨oj, hoj⟩ : ∃ oj, ops[j]? = some oj := ⟨_, Array.getElem?_eq_getElem (by have := (List.getElem?_eq_some_iff.1 hS').1; omega)⟩
              have := Z17 hok hI.closed hI.sz j oj hoj (hI.closed j oj hj hoj) i hmem
              rw [Z0k his false true, hun] at this
              cases this
            have hne : d ≠ t := fun e => (h3 d hd).2 j S' hS' (fun e => hji e.symm) hja (e ▸ ht)
            simp [Act.put, Array.getElem?_setIfInBounds_ne hne]
      · intro j hj
        have : i ≠ j := by omega
        rw [getD_set_ne false this]
        exact hI.un j hj
    have hk : ∀ v w', R w w' → I (upd (fun j => listed.getD j false) i) w' → S.T (a.put o.dst v) w' → wpAny P .any ops Q fuel (listed.setIfInBounds i true) (a.put o.dst v) w' :=
      fun v w' hRw hR hT => ih _ _ _ (hnext v w' hRw hR hT) (count_set his hun _ hcnt)
    unfold wpOp
    simp only [ho]
    rcases hst with ⟨hw, hy⟩ | ⟨hw, hJ, hT⟩
    · rw [if_pos hw]
      refine .inl ?_
      unfold YieldsR at hy
      unfold Oper.wp
      generalize (execOp a.eval o).run P w = r at hy ⊢
      cases r with
      | halt x w' => exact hy.elim
      | ok n w' =>
        cases n <;> simp only [Oper.upon] at hy ⊢
        case value v => exact hk v w' hy.1 hy.2.1 hy.2.2
        case skip => exact hk undef w' hy.1 hy.2.1 hy.2.2
        case enter f args =>
          refine hy.mono fun e w'' ⟨v, he, hRw, hR, hT⟩ => ?_
          subst he
          exact hk v w'' hRw hR hT
    · rw [if_neg (by rw [hw]; exact Bool.false_ne_true)]
      exact hk undef w (hrr w) hJ hT

inductive BuildR (P : Program) (R : World → World → Prop) (ops : Array Oper) (I : (Nat → Bool) → World → Prop) (a0 : Act) (D : List Tmp) (A : List (List Nat)) (G : List (Nat × TFact R) → Prop) : Nat → List Oper → List (Nat × TFact R) → Prop
  | stop {k : Nat} {os : List Oper} {done : List (Nat × TFact R)} (h : G done) : BuildR P R ops I a0 D A G k os done
  | step {k : Nat} {o : Oper} {os : List Oper} {done : List (Nat × TFact R)} (S : TFact R) (h : ∀ l a w, Env a0 D a → I l w → l k = false → (∀ i ∈ A.getD k [], l i = true) → (∀ (i : Nat) (S' : TFact R), i ∈ A.getD k [] → (i, S') ∈ done → S'.T a w) → opR P ops R (I (upd l k)) o S.T a w)
      (hr : BuildR P R ops I a0 D A G (k + 1) os ((k, S) :: done)) : BuildR P R ops I a0 D A G k (o :: os) done

variable {G : List (Nat × TFact R) → Prop} {k : Nat} {o : Oper} {os : List Oper} {done : List (Nat × TFact R)} {d : Tmp} {v : Value}
theorem BuildR.use (hb : BuildR P R ops I a0 D A G k os done) (hk : k = done.length) (hwf : ∀ (i : Nat) (S : TFact R), (i, S) ∈ done → (facts done)[i]? = some S) : ∃ fin : List (Nat × TFact R), G fin ∧ (∀ (i : Nat) (S : TFact R), (facts done)[i]? = some S → (facts fin)[i]? = some S) ∧
    (∀ (i : Nat) (S : TFact R), (i, S) ∈ fin → (facts fin)[i]? = some S) ∧ done.length ≤ fin.length ∧
    ∀ (i : Nat) (o : Oper) (S : TFact R), os[i]? = some o → (facts fin)[k + i]? = some S → ∀ l a w, Env a0 D a → I l w → l (k + i) = false → (∀ j ∈ A.getD (k + i) [], l j = true) → (∀ (j : Nat) (S' : TFact R), j ∈ A.getD (k + i) [] → (facts fin)[j]? = some S' → S'.T a w) → opR P ops R (I (upd l (k + i))) o S.T a w := by
  induction hb with
  | stop h =>
    rename_i k os done
    refine ⟨done, h, fun _ _ h => h, hwf, Nat.le_refl _, fun i o S _ hS => ?_⟩
    rw [List.getElem?_eq_none (by rw [Z0q]; omega)] at hS
    cases hS
  | step S h hr ih =>
    rename_i k o os done
    have hpre0 : ∀ (i : Nat) (S' : TFact R), (facts done)[i]? = some S' → (facts ((k, S) :: done))[i]? = some S' := fun i S' hi => by
      have hlt := (List.getElem?_eq_some_iff.1 hi).1
      rw [Z15, List.getElem?_append_left hlt]; exact hi
    obtain ⟨fin, hG, h1, hw, h2, h4⟩ := ih (by simp [hk]) (fun i S' hm => by
      rcases List.mem_cons.1 hm with he | hm
      · cases he
        rw [Z15, hk, ← Z0q done]
        simp
      · exact hpre0 i S' (hwf i S' hm))
    refine ⟨fin, hG, fun i S' hi => h1 i S' (hpre0 i S' hi), hw, by simp at h2; omega, ?_⟩
    intro i o' S' hi hS
    cases i with
    | zero =>
      simp at hi
      subst hi
      have : (facts fin)[k + 0]? = some S := h1 k S (by rw [Z15, hk, ← Z0q done]; simp)
      rw [this] at hS
      cases hS
      intro l a w hE hR hl hA hF
      exact h l a w hE hR hl hA (fun j S' hj hd => hF j S' hj (h1 j S' (hpre0 j S' (hwf j S' hd))))
    | succ i =>
      have := h4 i o' S' (by simpa using hi) (by rwa [show k + 1 + i = k + (i + 1) by omega])
      intro l a w hE hR hl hA hF
      rw [show k + (i + 1) = k + 1 + i by omega] at hl hA ⊢
      exact this l a w hE hR hl hA (fun j S' hj hd => hF j S' (by rwa [show k + (i + 1) = k + 1 + i by omega]) hd)



/-- Each operation's fact, shown once, and the invariant kept. -/
theorem Z3c {id : Nat} {l : List Oper} {w : World} (Fs : List (TFact R)) (A : List (List Nat)) (D : List Tmp) (hf : P.follows .mixedOrders = true) (hok : okB l.toArray D A (Fs.map TFact.L) Fs.length = true)
    (hm : (decide (Fs.length ≤ l.length) && (List.range l.length).all fun i => decide (i < Fs.length) || (List.range i).all fun j => (A.getD i []).contains j) = true)
    (hw0 : I (fun _ => false) w.drew)
    (hstep : ∀ (k : Nat) (o : Oper) (S : TFact R), l[k]? = some o → Fs[k]? = some S → ∀ L a w, Env a0 D a → I L w → L k = false → (∀ i ∈ A.getD k [], L i = true) → (∀ (i : Nat) (S' : TFact R), i ∈ A.getD k [] → Fs[i]? = some S' → S'.T a w) → opR P l.toArray R (I (upd L k)) o S.T a w)
    (hrr : ∀ w, R w w)
    (hend : ∀ L a w, Env a0 D a → I L w → (∀ i, i < Fs.length → L i = true) → (∀ (i : Nat) (S : TFact R), Fs[i]? = some S → S.T a w) → tailWp P l.toArray Q (l.length - Fs.length) Fs.length a w) :
    (Code.region id l.toArray true).wp P Q a0 w := by
  refine wp_region_any hf ?_
  simp only [Bool.and_eq_true, decide_eq_true_eq, List.all_eq_true, List.mem_range, Bool.or_eq_true, List.contains_iff_mem] at hm
  refine Z7d (a0 := a0) (I := I) (Fs := Fs) (A := A) (D := D) (m := Fs.length) hok rfl (by simpa using hm.1) ?_ (by simpa using hstep) hrr (by simpa using hend) _ _ _ _ ?_ (by simp)
  · intro i h1 h2 j hj
    rcases hm.2 i (by simpa using h2) with h | h
    · omega
    · exact h j hj
  · refine ⟨by simp, ⟨rfl, rfl, fun _ _ => rfl⟩, ?_, ?_, ?_, ?_⟩
    · have e : (fun i => (Array.replicate l.toArray.size false).getD i false) = fun _ => false := funext fun i => Z0w _ _
      rw [e]
      exact hw0
    · intro j o hj
      rw [Z0w] at hj
      cases hj
    · intro i S hi
      rw [Z0w] at hi
      cases hi
    · intro i _
      exact Z0w _ _

/-- The operations that are left: their weakest conditions, nested. -/
def tailOps (P : Program) (Q : Exit → Act → World → Prop) : List Oper → Act → World → Prop
  | [], a, w => Q .normal a w
  | o :: os, a, w => o.wp P a w (fun a w => tailOps P Q os a w) Q
theorem Z48 (l : List Oper) : ∀ (os : List Oper) (m : Nat), l.drop m = os → (os.all fun o => o.guard.isNone) = true → ∀ a w, tailOps P Q os a w → tailWp P l.toArray Q os.length m a w := by
  intro os
  induction os with
  | nil => intro m _ _ a w h; exact h
  | cons o os ih =>
    intro m hd hg a w h
    have ho : l[m]? = some o := by
      have := congrArg (fun x => x[0]?) hd
      simpa using this
    have hd' : l.drop (m + 1) = os := by
      rw [← List.drop_drop, hd]
      rfl
    simp only [List.all_cons, Bool.and_eq_true, Option.isNone_iff_eq_none] at hg
    show wpOp P l.toArray Q m _ a w
    unfold wpOp
    simp only [List.getElem?_toArray, ho]
    rw [if_pos (Z0b hg.1)]
    refine .inl ?_
    refine Oper.wp_mono ?_ h
    intro a' w' h'
    exact ih (m + 1) hd' (by simpa using hg.2) a' w' h'

def FinR (P : Program) (l : List Oper) (I : (Nat → Bool) → World → Prop) (a0 : Act) (D : List Tmp) (A : List (List Nat)) (Q : Exit → Act → World → Prop) (fin : List (Nat × TFact R)) : Prop :=
  (okB l.toArray D A ((facts fin).map TFact.L) fin.length && (decide (fin.length ≤ l.length) && (List.range l.length).all fun i => decide (i < fin.length) || (List.range i).all fun j => (A.getD i []).contains j) && (l.drop fin.length).all fun o => o.guard.isNone) = true ∧
    ∀ L a w, Env a0 D a → I L w → (∀ i, i < fin.length → L i = true) → (∀ (i : Nat) (S : TFact R), (i, S) ∈ fin → S.T a w) → tailOps P Q (l.drop fin.length) a w
theorem Z2e {id : Nat} {l : List Oper} {w : World} (R : World → World → Prop) (I : (Nat → Bool) → World → Prop) (A : List (List Nat)) (D : List Tmp) (hrr : ∀ w, R w w) (hw0 : I (fun _ => false) w.drew) (hf : P.follows .mixedOrders = true)
    (h : BuildR P R l.toArray I a0 D A (FinR P l I a0 D A Q) 0 l []) : (Code.region id l.toArray true).wp P Q a0 w := by
  obtain ⟨fin, ⟨hok, hG⟩, -, hw, -, hstep⟩ := h.use rfl (fun _ _ h => by cases h)
  have hlen := Z0q fin
  rw [Bool.and_eq_true, Bool.and_eq_true] at hok
  refine Z3c (I := I) (facts fin) A D hf (by rw [hlen]; exact hok.1.1) (by rw [hlen]; exact hok.1.2) hw0 (fun k o S h1 h2 L a w hE hR hl hA hF => by
    have := hstep k o S h1 (by simpa using h2) L a w hE hR (by simpa using hl) (by simpa using hA) (by simpa using hF)
    simpa using this) hrr (fun L a w hE hR hA hF => ?_)
  rw [hlen] at hA ⊢
  have := Z48 l (l.drop fin.length) fin.length rfl hok.2 a w (hG L a w hE hR hA (fun i S hm => hF i S (hw i S hm)))
  simpa using this

theorem BuildR.det (d : Tmp) {v : Value} (hrr : ∀ w, R w w) (hI : ∀ l w, I l w → I (upd l k) w) (hd : o.dst = some d) (hn : Nat.blt d a0.tmps.size = true) (hg : o.guard = none)
    (h : ∀ l a w, Env a0 D a → I l w → (∀ (i : Nat) (S' : TFact R), i ∈ A.getD k [] → (i, S') ∈ done → S'.T a w) → (execOp a.eval o).run P w = .ok (.value v) w)
    (hr : BuildR P R ops I a0 D A G (k + 1) os ((k, Proofs.YtakkhglbdljfiaaGreatDoor.det d v) :: done)) : BuildR P R ops I a0 D A G k (o :: os) done :=
  .step _ (fun l a w hE hR _ _ hF => .inl ⟨Z0b hg, by
    unfold YieldsR
    rw [h l a w hE hR hF]
    exact ⟨hrr w, hI l w hR, by rw [hd]; exact Z0h (by rw [hE.size]; exact Nat.le_of_ble_eq_true hn)⟩⟩) hr
/-- A guarded one that is wanted. -/
theorem BuildR.detg (d : Tmp) {v : Value} {j dj : Nat} {b : Bool} (hrr : ∀ w, R w w) (hI : ∀ l w, I l w → I (upd l k) w) (hd : o.dst = some d) (hn : Nat.blt d a0.tmps.size = true) (hg : o.guard = some (j, b)) (hj : (ops[j]?).bind (·.dst) = some dj)
    (h : ∀ l a w, Env a0 D a → I l w → (∀ (i : Nat) (S' : TFact R), i ∈ A.getD k [] → (i, S') ∈ done → S'.T a w) → a.eval (.tmp dj) = .bool b ∧ (execOp a.eval o).run P w = .ok (.value v) w)
    (hr : BuildR P R ops I a0 D A G (k + 1) os ((k, Proofs.YtakkhglbdljfiaaGreatDoor.det d v) :: done)) : BuildR P R ops I a0 D A G k (o :: os) done :=
  .step _ (fun l a w hE hR _ _ hF => .inl ⟨(Z0t hg hj (h l a w hE hR hF).1).trans (by simp), by
    unfold YieldsR
    rw [(h l a w hE hR hF).2]
    exact ⟨hrr w, hI l w hR, by rw [hd]; exact Z0h (by rw [hE.size]; exact Nat.le_of_ble_eq_true hn)⟩⟩) hr
/-- A guarded one that is not. -/
theorem BuildR.skip (d : Tmp) {j dj : Nat} {b : Bool} (hI : ∀ l w, I l w → I (upd l k) w) (hd : o.dst = some d) (hn : Nat.blt d a0.tmps.size = true) (hg : o.guard = some (j, b)) (hj : (ops[j]?).bind (·.dst) = some dj)
    (h : ∀ l a w, Env a0 D a → I l w → (∀ (i : Nat) (S' : TFact R), i ∈ A.getD k [] → (i, S') ∈ done → S'.T a w) → a.eval (.tmp dj) = .bool (!b))
    (hr : BuildR P R ops I a0 D A G (k + 1) os ((k, Proofs.YtakkhglbdljfiaaGreatDoor.det d undef) :: done)) : BuildR P R ops I a0 D A G k (o :: os) done :=
  .step _ (fun l a w hE hR _ _ hF => .inr ⟨(Z0t hg hj (h l a w hE hR hF)).trans (by simp), hI l w hR, by rw [hd]; exact Z0h (by rw [hE.size]; exact Nat.le_of_ble_eq_true hn)⟩) hr
/-- A call; its law may ask what is done. -/
theorem BuildR.call (d : Tmp) {v : Value} {f : FuncId} {args : Array Value} (hd : o.dst = some d) (hn : Nat.blt d a0.tmps.size = true) (hg : o.guard = none)
    (h : ∀ l a w, Env a0 D a → I l w → (∀ (i : Nat) (S' : TFact R), i ∈ A.getD k [] → (i, S') ∈ done → S'.T a w) → (execOp a.eval o).run P w = .ok (.enter f args) w)
    (hc : ∀ l w, I l w → l k = false → (∀ i ∈ A.getD k [], l i = true) → Calls P f args w fun e w' => e = .returned v ∧ R w w' ∧ I (upd l k) w')
    (hr : BuildR P R ops I a0 D A G (k + 1) os ((k, Proofs.YtakkhglbdljfiaaGreatDoor.det d v) :: done)) : BuildR P R ops I a0 D A G k (o :: os) done :=
  .step _ (fun l a w hE hR hl hA hF => .inl ⟨Z0b hg, by
    unfold YieldsR
    rw [h l a w hE hR hF]
    exact (hc l w hR hl hA).mono fun e w' ⟨he, hRw, hI⟩ => ⟨v, he, hRw, hI, by rw [hd]; exact Z0h (by rw [hE.size]; exact Nat.le_of_ble_eq_true hn)⟩⟩) hr
theorem BuildR.callg (d : Tmp) {v : Value} {f : FuncId} {args : Array Value} {j dj : Nat} {b : Bool} (hd : o.dst = some d) (hn : Nat.blt d a0.tmps.size = true) (hg : o.guard = some (j, b)) (hj : (ops[j]?).bind (·.dst) = some dj)
    (h : ∀ l a w, Env a0 D a → I l w → (∀ (i : Nat) (S' : TFact R), i ∈ A.getD k [] → (i, S') ∈ done → S'.T a w) → a.eval (.tmp dj) = .bool b ∧ (execOp a.eval o).run P w = .ok (.enter f args) w)
    (hc : ∀ l w, I l w → l k = false → (∀ i ∈ A.getD k [], l i = true) → Calls P f args w fun e w' => e = .returned v ∧ R w w' ∧ I (upd l k) w')
    (hr : BuildR P R ops I a0 D A G (k + 1) os ((k, Proofs.YtakkhglbdljfiaaGreatDoor.det d v) :: done)) : BuildR P R ops I a0 D A G k (o :: os) done :=
  .step _ (fun l a w hE hR hl hA hF => .inl ⟨(Z0t hg hj (h l a w hE hR hF).1).trans (by simp), by
    unfold YieldsR
    rw [(h l a w hE hR hF).2]
    exact (hc l w hR hl hA).mono fun e w' ⟨he, hRw, hI⟩ => ⟨v, he, hRw, hI, by rw [hd]; exact Z0h (by rw [hE.size]; exact Nat.le_of_ble_eq_true hn)⟩⟩) hr
/-- One that makes something of its own. -/
theorem BuildR.new (d : Tmp) (φ : Value → World → Prop) (hφ : ∀ v w w', R w w' → φ v w → φ v w') (hd : o.dst = some d) (hn : Nat.blt d a0.tmps.size = true) (hg : o.guard = none)
    (h : ∀ l a w, Env a0 D a → I l w → l k = false → (∀ i ∈ A.getD k [], l i = true) → (∀ (i : Nat) (S' : TFact R), i ∈ A.getD k [] → (i, S') ∈ done → S'.T a w) → ∃ v w', (execOp a.eval o).run P w = .ok (.value v) w' ∧ R w w' ∧ I (upd l k) w' ∧ φ v w')
    (hr : BuildR P R ops I a0 D A G (k + 1) os ((k, fresh d φ hφ) :: done)) : BuildR P R ops I a0 D A G k (o :: os) done :=
  .step _ (fun l a w hE hR hl hA hF => by
    obtain ⟨v, w', h1, h2, h3, h4⟩ := h l a w hE hR hl hA hF
    refine .inl ⟨Z0b hg, ?_⟩
    unfold YieldsR
    rw [h1]
    exact ⟨h2, h3, by rw [hd]; show φ ((a.put (some d) v).eval (.tmp d)) w'; rw [Z0h (by rw [hE.size]; exact Nat.le_of_ble_eq_true hn)]; exact h4⟩) hr
end
end Go.Proofs.YtakkhglbdljfiaaGreatDoor

/- Regions by facts: an operation guarded by one that was skipped. -/
namespace Go.Proofs.YtakkhglbdljfiaaGreatDoor
set_option linter.unusedVariables false
set_option linter.unusedSimpArgs false
open Go.RowKit

section
variable {P : Program} {R : World → World → Prop} {ops : Array Oper} {w0 : World} {a0 : Act} {D : List Tmp} {A : List (List Nat)} {G : List (Nat × TFact R) → Prop} {k : Nat} {o : Oper} {os : List Oper} {done : List (Nat × TFact R)}
theorem Z68 {a : Act} {j dj : Nat} {b : Bool} (hg : o.guard = some (j, b)) (hj : (ops[j]?).bind (·.dst) = some dj) (he : a.eval (.tmp dj) = undef) : Region.wanted o (yielded ops a.tmps) = false := by
  have h : yielded ops a.tmps j = none := by
    unfold yielded
    rw [hj]
    rw [Z16, Array.getD_eq_getD_getElem?] at he
    cases hx : a.tmps[dj]? with
    | none => simp [hx]
    | some x =>
      rw [hx] at he
      have he : x = undef := he
      subst he
      simp [hx]
      rfl
  unfold Region.wanted
  rw [hg]
  simp [h]
end
end Go.Proofs.YtakkhglbdljfiaaGreatDoor

/- Regions by facts: a guarded call that hands back something new. No function of the program in sight. -/
namespace Go.Proofs.YtakkhglbdljfiaaGreatDoor
set_option linter.unusedVariables false
set_option linter.unusedSimpArgs false
open Go.RowKit
section
variable {R : World → World → Prop}
variable {P : Program} {ops : Array Oper} {w0 : World} {a0 : Act} {D : List Tmp} {A : List (List Nat)}
variable {o : Oper}
variable {G : List (Nat × TFact R) → Prop} {k : Nat} {os : List Oper} {done : List (Nat × TFact R)}
theorem Build.callnewg (d : Tmp) (φ : Value → World → Prop) (hφ : ∀ v w w', R w w' → φ v w → φ v w') {f : FuncId} {args : Array Value} {j dj : Nat} {b : Bool} (hrr : ∀ x, R x x) (hd : o.dst = some d) (hn : Nat.blt d a0.tmps.size = true) (hg : o.guard = some (j, b)) (hj : (ops[j]?).bind (·.dst) = some dj)
    (h : ∀ a w, Env a0 D a → R w0 w → (∀ (i : Nat) (S' : TFact R), i ∈ A.getD k [] → (i, S') ∈ done → S'.T a w) → a.eval (.tmp dj) = .bool b ∧ (execOp a.eval o).run P w = .ok (.enter f args) w)
    (hc : ∀ w, R w0 w → Calls P f args w fun e w' => ∃ v, e = .returned v ∧ R w w' ∧ φ v w')
    (hr : Build P ops R w0 a0 D A G (k + 1) os ((k, fresh d φ hφ) :: done)) : Build P ops R w0 a0 D A G k (o :: os) done :=
  .step _ (fun a w hE hR hF => Z7i hd (by rw [hE.size]; exact Nat.le_of_ble_eq_true hn) (hrr w) ((Z0t hg hj (h a w hE hR hF).1).trans (by simp)) (h a w hE hR hF).2 (hc w hR)) hr
/-- A call whose arguments lean on new things. -/
theorem Build.callxg (d : Tmp) {v : Value} {j dj : Nat} {b : Bool} (hrr : ∀ x, R x x) (hd : o.dst = some d) (hn : Nat.blt d a0.tmps.size = true) (hg : o.guard = some (j, b)) (hj : (ops[j]?).bind (·.dst) = some dj)
    (h : ∀ a w, Env a0 D a → R w0 w → (∀ (i : Nat) (S' : TFact R), i ∈ A.getD k [] → (i, S') ∈ done → S'.T a w) → a.eval (.tmp dj) = .bool b ∧ ∃ f args, (execOp a.eval o).run P w = .ok (.enter f args) w ∧ Calls P f args w fun e w' => e = .returned v ∧ R w w')
    (hr : Build P ops R w0 a0 D A G (k + 1) os ((k, Proofs.YtakkhglbdljfiaaGreatDoor.det d v) :: done)) : Build P ops R w0 a0 D A G k (o :: os) done :=
  .step _ (fun a w hE hR hF => by
    obtain ⟨hb, f, args, h1, hc⟩ := h a w hE hR hF
    exact Z5x hd (by rw [hE.size]; exact Nat.le_of_ble_eq_true hn) (hrr w) ((Z0t hg hj hb).trans (by simp)) h1 hc) hr
end
end Go.Proofs.YtakkhglbdljfiaaGreatDoor

/- The blocks of one's own, as one fact: what each holds; below H all is as it was. -/
namespace Go.Proofs.YtakkhglbdljfiaaGreatDoor
set_option linter.unusedVariables false
set_option linter.unusedSimpArgs false
open Go.RowKit

abbrev BlkD := Nat × TypeId × Array Value
def Blks (w : World) : List BlkD → Prop
  | [] => True
  | x :: L => Blk w x.1 x.2.1 x.2.2 ∧ Blks w L
/-- Below H the world is as A; the blocks of L, from H on, hold this; no two are one. -/
structure Own (H : Nat) (A : World) (L : List BlkD) (w : World) : Prop where
  below : Below H A w
  size : H ≤ w.heap.size
  all : Blks w L
  high : ∀ x ∈ L, H ≤ x.1
  diff : L.Pairwise fun x y => x.1 ≠ y.1
section
variable {H : Nat} {A w w' : World} {L : List BlkD}
theorem Blks.mono_ (h : Blks w L) (k : ∀ x ∈ L, Blk w x.1 x.2.1 x.2.2 → Blk w' x.1 x.2.1 x.2.2) : Blks w' L := by
  induction L with
  | nil => trivial
  | cons x L ih => exact ⟨k x (by simp) h.1, ih h.2 (fun y hy => k y (by simp [hy]))⟩
theorem Blks.mem (h : Blks w L) {x : BlkD} (hx : x ∈ L) : Blk w x.1 x.2.1 x.2.2 := by
  induction L with
  | nil => cases hx
  | cons y L ih =>
    rcases List.mem_cons.1 hx with rfl | hx
    · exact h.1
    · exact ih h.2 hx
theorem Own.start (w : World) : Own w.heap.size w [] w := ⟨Below.refl _ _, Nat.le_refl _, trivial, (fun _ h => by cases h), List.Pairwise.nil⟩
theorem Own.ext (h : Own H A L w) (k : Ext w w') : Own H A L w' :=
  ⟨h.below.trans (k.mono h.size), Nat.le_trans h.size k.size, h.all.mono_ fun _ _ hb => hb.ext k, h.high, h.diff⟩
theorem Own.lt (h : Own H A L w) {x : BlkD} (hx : x ∈ L) : x.1 < w.heap.size := (h.all.mem hx).lt
theorem Own.drew (h : Own H A L w) : Own H A L w.drew := h.ext (Ext.drew w)
theorem Own.new (h : Own H A L w) (t : TypeId) (cs : Array Value) : Own H A ((w.heap.size, t, cs) :: L) (w.alloc (.cells cs t)) := by
  have h1 := h.ext (Ext.alloc w (.cells cs t))
  refine ⟨h1.below, h1.size, ⟨Blk.new w t cs, h1.all⟩, fun x hx => ?_, ?_⟩
  · rcases List.mem_cons.1 hx with rfl | hx
    · exact h.size
    · exact h1.high x hx
  · exact List.Pairwise.cons (fun y hy e => by have := h.lt hy; simp only at e; omega) h.diff
theorem Own.other (h : Own H A L w) (o : Obj) : Own H A L (w.alloc o) := h.ext (Ext.alloc w o)
/-- The world with a block anew. -/
theorem Own.put (h : Own H A L w) {b : Nat} {t : TypeId} {cs : Array Value} {L1 L2 : List BlkD} (hL : L = L1 ++ (b, t, cs) :: L2) (cs' : Array Value) (hg : w.grownBy w' (some b)) (hb : Blk w' b t cs') : Own H A (L1 ++ (b, t, cs') :: L2) w' := by
  subst hL
  have hHb : H ≤ b := h.high (b, t, cs) (by simp)
  have hd := h.diff
  rw [List.pairwise_append] at hd
  obtain ⟨d1, d2, d3⟩ := hd
  rw [List.pairwise_cons] at d2
  have hfar : ∀ x ∈ L1 ++ L2, x.1 ≠ b := by
    intro x hx
    rcases List.mem_append.1 hx with hx | hx
    · exact d3 x hx (b, t, cs) (by simp)
    · exact (d2.1 x hx).symm
  have hmem : ∀ x ∈ L1 ++ L2, Blk w' x.1 x.2.1 x.2.2 := fun x hx => (h.all.mem (x := x) (by
    rcases List.mem_append.1 hx with hx | hx
    · simp [hx]
    · simp [hx])).grown hg (by simpa using hfar x hx)
  refine ⟨h.below.grown hg h.size (fun k e => by injection e with e; omega), Nat.le_trans h.size hg.size, ?_, ?_, ?_⟩
  · have : ∀ M : List BlkD, (∀ x ∈ M, Blk w' x.1 x.2.1 x.2.2) → Blks w' M := by
      intro M
      induction M with
      | nil => intro _; trivial
      | cons x M ih => intro hM; exact ⟨hM x (by simp), ih fun y hy => hM y (by simp [hy])⟩
    refine this _ fun x hx => ?_
    rcases List.mem_append.1 hx with hx | hx
    · exact hmem x (by simp [hx])
    · rcases List.mem_cons.1 hx with rfl | hx
      · exact hb
      · exact hmem x (by simp [hx])
  · intro x hx
    rcases List.mem_append.1 hx with hx | hx
    · exact h.high x (by simp [hx])
    · rcases List.mem_cons.1 hx with rfl | hx
      · exact hHb
      · exact h.high x (by simp [hx])
  · rw [List.pairwise_append]
    refine ⟨d1, List.pairwise_cons.2 ⟨d2.1, d2.2⟩, fun x hx y hy => ?_⟩
    rcases List.mem_cons.1 hy with rfl | hy
    · exact d3 x hx (b, t, cs) (by simp)
    · exact d3 x hx y (by simp [hy])
theorem Own.set (h : Own H A L w) {b : Nat} {t : TypeId} {cs : Array Value} {L1 L2 : List BlkD} (hL : L = L1 ++ (b, t, cs) :: L2) (i : Nat) (u : Value) : Own H A (L1 ++ (b, t, cs.setIfInBounds i u) :: L2) (w.setCell ⟨b, i, none⟩ u) :=
  h.put hL _ (Z1c (World.grownBy.refl w _) (.inl rfl) u) ((h.all.mem (x := (b, t, cs)) (by rw [hL]; simp) : Blk w b t cs).set_ i u)
/-- Another block of one's own has turned. -/
theorem Own.far (h : Own H A L w) {b : Nat} (hb : H ≤ b) (hL : ∀ x ∈ L, x.1 ≠ b) (hg : w.grownBy w' (some b)) : Own H A L w' :=
  ⟨h.below.grown hg h.size (fun k e => by injection e with e; omega), Nat.le_trans h.size hg.size, (by
    have h0 := h.all
    clear h
    induction L with
    | nil => trivial
    | cons x L ih => exact ⟨h0.1.grown hg (by have := hL x (by simp); simpa using this), ih (fun y hy => hL y (by simp [hy])) h0.2⟩), h.high, h.diff⟩
theorem Own.tail {x : BlkD} (h : Own H A (x :: L) w) : Own H A L w := ⟨h.below, h.size, h.all.2, fun y hy => h.high y (by simp [hy]), (List.pairwise_cons.1 h.diff).2⟩
theorem Own.done (h : Own w'.heap.size w' L w) : Below w'.heap.size w' w := h.below
end
end Go.Proofs.YtakkhglbdljfiaaGreatDoor
