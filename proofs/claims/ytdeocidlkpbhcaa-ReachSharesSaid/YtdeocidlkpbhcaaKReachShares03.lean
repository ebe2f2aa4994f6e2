/- A region that draws its order, holds calls that write and makes things: an invariant of the world by what is done, a relation that keeps facts; its last operations may be left, one behind the other. No function of the program in sight. -/
import Derived.Test.YtdeocidlkpbhcaaKReachShares01
import Derived.Test.YtdeocidlkpbhcaaKReachShares02
namespace Go.Proofs.Ytdeocidlkpbhcaa
set_option linter.unusedVariables false
set_option linter.unusedSimpArgs false
open Go.RowKit

def YieldsR (P : Program) (R : World → World → Prop) (J : World → Prop) (o : Oper) (T : Act → World → Prop) (a : Act) (w : World) : Prop :=
  match (execOp a.eval o).run P w with
  | .ok (.value v) w' => R w w' ∧ J w' ∧ T (a.put o.dst v) w'
  | .ok .skip w' => R w w' ∧ J w' ∧ T (a.put o.dst undef) w'
  | .ok (.enter f args) w' => Calls P f args w' (fun e w'' => ∃ v, e = .returned v ∧ R w w'' ∧ J w'' ∧ T (a.put o.dst v) w'')
  | _ => False
def opR (P : Program) (ops : Array Oper) (R : World → World → Prop) (J : World → Prop) (o : Oper) (T : Act → World → Prop) (a : Act) (w : World) : Prop :=
  (Region.wanted o (yielded ops a.tmps) = true ∧ YieldsR P R J o T a w) ∨ (Region.wanted o (yielded ops a.tmps) = false ∧ J w ∧ T (a.put o.dst undef) w)
/-- The operations that are left, one behind the other. -/
def tailWp (P : Program) (ops : Array Oper) (Q : Exit → Act → World → Prop) : Nat → Nat → Act → World → Prop
  | 0, _, a, w => Q .normal a w
  | n + 1, i, a, w => wpOp P ops Q i (fun a w => tailWp P ops Q n (i + 1) a w) a w

section
variable {P : Program} {R : World → World → Prop} {ops : Array Oper} {I : (Nat → Bool) → World → Prop} {a0 : Act} {D : List Tmp} {A : List (List Nat)} {Fs : List (TFact R)} {m : Nat} {Q : Exit → Act → World → Prop}

structure RInv (ops : Array Oper) (I : (Nat → Bool) → World → Prop) (a0 : Act) (D : List Tmp) (Fs : List (TFact R)) (m : Nat) (listed : Array Bool) (a : Act) (w : World) : Prop where
  sz : listed.size = ops.size
  env : Env a0 D a
  inv : I (fun i => listed.getD i false) w
  closed : ∀ j o, listed.getD j false = true → ops[j]? = some o → ∀ e ∈ o.after, Region.binds .any e = true → listed.getD e.on false = true
  typed : ∀ i S, listed.getD i false = true → Fs[i]? = some S → S.T a w
  un : ∀ i, m ≤ i → listed.getD i false = false

theorem Z2r {listed : Array Bool} {i : Nat} {o : Oper} (his : i < listed.size) (ho : ops[i]? = some o) (hpre : ∀ e ∈ o.after, Region.binds .any e = true → listed.getD e.on false = true)
    (hc : ∀ j o, listed.getD j false = true → ops[j]? = some o → ∀ e ∈ o.after, Region.binds .any e = true → listed.getD e.on false = true) :
    ∀ j o, (listed.setIfInBounds i true).getD j false = true → ops[j]? = some o → ∀ e ∈ o.after, Region.binds .any e = true → (listed.setIfInBounds i true).getD e.on false = true := by
  intro j oj hj hoj e he hb
  by_cases hji : i = j
  · subst hji
    rw [ho] at hoj
    cases hoj
    by_cases hei : i = e.on
    · rw [← hei]; exact Z1c his _
    · rw [getD_set_ne false hei]; exact hpre e he hb
  · rw [getD_set_ne false hji] at hj
    by_cases hei : i = e.on
    · rw [← hei]; exact Z1c his _
    · rw [getD_set_ne false hei]; exact hc j oj hj hoj e he hb
theorem Z2s (listed : Array Bool) (hs : listed.size = ops.size) (h0 : listed.toList.count false = 0) : Region.ready .any ops listed = [] ∧ ∀ i, i < ops.size → listed.getD i false = true := by
  rw [List.count_eq_zero] at h0
  have hx : ∀ i, i < ops.size → listed.getD i false = true := by
    intro i hi
    have hi' : i < listed.size := by omega
    have : listed[i] ∈ listed.toList := by simp
    have hne : listed[i] ≠ false := fun e => h0 (e ▸ this)
    simpa [hi'] using hne
  refine ⟨?_, hx⟩
  rw [List.eq_nil_iff_forall_not_mem]
  intro j hj
  obtain ⟨h1, o, ho, _⟩ := mem_ready.1 hj
  have hjs : j < ops.size := (Array.getElem?_eq_some_iff.1 ho).1
  have := hx j hjs
  rw [Z0r (by omega) false true] at this
  rw [this] at h1
  cases h1
theorem Z2p (hok : okB ops D A (Fs.map TFact.L) m = true) (listed : Array Bool) (hs : listed.size = ops.size) (fuel : Nat) (hcnt : listed.toList.count false = fuel + 1) : ¬ Region.ready .any ops listed = [] := by
  intro hr
  have : ∀ k, k < ops.size → listed.getD k false = true := by
    intro k
    induction k using Nat.strongRecOn with
    | _ k ihk =>
      intro hk
      cases hl : listed.getD k false with
      | true => rfl
      | false =>
        have ho : ops[k]? = some ops[k] := Array.getElem?_eq_getElem hk
        have : k ∈ Region.ready .any ops listed := mem_ready.2 ⟨by rw [Z0r (by omega) true false]; exact hl, _, ho, fun e he hb => by
          have hlt := (Z48 hok ho).1 e he hb
          exact ihk e.on hlt (by omega)⟩
        rw [hr] at this
        cases this
  have hz : listed.toList.count false = 0 := by
    rw [List.count_eq_zero]
    intro hmem
    obtain ⟨i, hi, he⟩ := List.getElem_of_mem hmem
    have hi' : i < listed.size := by simpa using hi
    have := this i (by omega)
    simp [hi'] at this
    simp [this] at he
  omega

theorem Z4r (hok : okB ops D A (Fs.map TFact.L) m = true) (hm : ∀ i, m ≤ i → i < ops.size → ∀ j, j < i → j ∈ A.getD i []) :
    ∀ (fuel i : Nat) (listed : Array Bool) (a : Act) (w : World), m ≤ i → i ≤ ops.size → listed.size = ops.size → (∀ j, j < i → listed.getD j false = true) → (∀ j, i ≤ j → listed.getD j false = false) →
      (∀ j o, listed.getD j false = true → ops[j]? = some o → ∀ e ∈ o.after, Region.binds .any e = true → listed.getD e.on false = true) →
      listed.toList.count false = fuel → tailWp P ops Q (ops.size - i) i a w → wpAny P .any ops Q fuel listed a w := by
  intro fuel
  induction fuel with
  | zero =>
    intro i listed a w hmi hi hs h1 h2 hc h0 ht
    obtain ⟨hr, hx⟩ := Z2s (ops := ops) listed hs h0
    have : i = ops.size := by
      by_cases h : i < ops.size
      · have := hx i h
        rw [h2 i (Nat.le_refl _)] at this
        cases this
      · omega
    subst this
    rw [Nat.sub_self] at ht
    exact ⟨hr, ht⟩
  | succ fuel ih =>
    intro i listed a w hmi hi hs h1 h2 hc hcnt ht
    refine ⟨fun hr => (Z2p hok listed hs fuel hcnt hr).elim, fun k hk => ?_⟩
    obtain ⟨hun, o, ho, hpre⟩ := mem_ready.1 hk
    have hks : k < ops.size := (Array.getElem?_eq_some_iff.1 ho).1
    have hanc := Z1f hok hc hs k o ho hpre
    have hun' : listed.getD k false = false := by rw [Z0r (by omega) false true]; exact hun
    have hik : i ≤ k := by
      by_cases h : k < i
      · rw [h1 k h] at hun'; cases hun'
      · omega
    have hki : k = i := by
      by_cases h : i < k
      · have := hanc i (hm k (by omega) hks i h)
        rw [h2 i (Nat.le_refl _)] at this
        cases this
      · omega
    subst hki
    rw [show ops.size - k = (ops.size - (k + 1)) + 1 by omega] at ht
    refine wpOp_mono (fun a' w' hq => ?_) ht
    refine ih (k + 1) _ a' w' (by omega) (by omega) (by simpa using hs) (fun j hj => ?_) (fun j hj => ?_) (Z2r (by omega) ho hpre hc) (count_set (by omega) hun _ hcnt) hq
    · by_cases h : k = j
      · subst h; exact Z1c (by omega) _
      · rw [getD_set_ne false h]; exact h1 j (by omega)
    · have : k ≠ j := by omega
      rw [getD_set_ne false this]
      exact h2 j (by omega)

theorem Z60 (hok : okB ops D A (Fs.map TFact.L) m = true) (hlen : Fs.length = m) (hms : m ≤ ops.size) (hm : ∀ i, m ≤ i → i < ops.size → ∀ j, j < i → j ∈ A.getD i [])
    (hstep : ∀ (k : Nat) (o : Oper) (S : TFact R), ops[k]? = some o → Fs[k]? = some S → ∀ l a w, Env a0 D a → I l w → l k = false → (∀ i ∈ A.getD k [], l i = true) → (∀ (i : Nat) (S' : TFact R), i ∈ A.getD k [] → Fs[i]? = some S' → S'.T a w) → opR P ops R (I (upd l k)) o S.T a w)
    (hrr : ∀ w, R w w)
    (hend : ∀ l a w, Env a0 D a → I l w → (∀ i, i < m → l i = true) → (∀ (i : Nat) (S : TFact R), Fs[i]? = some S → S.T a w) → tailWp P ops Q (ops.size - m) m a w) :
    ∀ (fuel : Nat) (listed : Array Bool) (a : Act) (w : World), RInv ops I a0 D Fs m listed a w → listed.toList.count false = fuel → wpAny P .any ops Q fuel listed a w := by
  intro fuel
  induction fuel with
  | zero =>
    intro listed a w hI h0
    obtain ⟨hr, hx⟩ := Z2s (ops := ops) listed hI.sz h0
    have hmm : m = ops.size := by
      by_cases h : m < ops.size
      · have := hx m h
        rw [hI.un m (Nat.le_refl _)] at this
        cases this
      · omega
    refine ⟨hr, ?_⟩
    have := hend _ a w hI.env hI.inv (fun i hi => hx i (by omega)) (fun i S hS => hI.typed i S (hx i (by have := (List.getElem?_eq_some_iff.1 hS).1; omega)) hS)
    rwa [show ops.size - m = 0 by omega] at this
  | succ fuel ih =>
    intro listed a w hI hcnt
    by_cases hall : ∀ j, j < m → listed.getD j false = true
    · exact Z4r hok hm (fuel + 1) m listed a w (Nat.le_refl _) hms hI.sz hall hI.un hI.closed hcnt (hend _ a w hI.env hI.inv hall (fun i S hS => hI.typed i S (hall i (by have := (List.getElem?_eq_some_iff.1 hS).1; omega)) hS))
    refine ⟨fun hr => (Z2p hok listed hI.sz fuel hcnt hr).elim, fun i hi => ?_⟩
    obtain ⟨hun, o, ho, hpre⟩ := mem_ready.1 hi
    have hio : i < ops.size := (Array.getElem?_eq_some_iff.1 ho).1
    have his : i < listed.size := by have := hI.sz; omega
    have hanc := Z1f hok hI.closed hI.sz i o ho hpre
    have him : i < m := by
      by_cases h : i < m
      · exact h
      · exact (hall (fun j hj => hanc j (hm i (by omega) hio j (by omega)))).elim
    obtain ⟨S, hS⟩ : ∃ S, Fs[i]? = some S := ⟨_, List.getElem?_eq_getElem (by omega)⟩
    have hst := hstep i o S ho hS _ a w hI.env hI.inv (by rw [Z0r his false true]; exact hun) hanc (fun j S' hj hS' => hI.typed j S' (hanc j hj) hS')
    have hnext : ∀ v w', R w w' → I (upd (fun j => listed.getD j false) i) w' → S.T (a.put o.dst v) w' → RInv ops I a0 D Fs m (listed.setIfInBounds i true) (a.put o.dst v) w' := by
      intro v w' hRw hR hT
      obtain ⟨_, _, h3⟩ := Z48 hok ho
      have h3 := h3 him
      refine ⟨by simpa using hI.sz, ⟨?_, ?_, ?_⟩, by rw [Z3c his]; exact hR, Z2r his ho hpre hI.closed, ?_, ?_⟩
      · rw [← hI.env.size]; cases hd : o.dst <;> simp [Act.put]
      · rw [← hI.env.defers]; cases hd : o.dst <;> simp [Act.put]
      · intro t ht
        rw [← hI.env.keep t ht]
        cases hd : o.dst with
        | none => simp [Act.put]
        | some d =>
          have := (h3 d hd).1
          have hne : d ≠ t := fun e => ht (e ▸ this)
          simp [Act.put, Array.getElem?_setIfInBounds_ne hne]
      · intro j S' hj hS'
        by_cases hji : i = j
        · subst hji
          rw [hS] at hS'
          cases hS'
          exact hT
        · rw [getD_set_ne false hji] at hj
          have hold := S'.mono _ w w' hRw (hI.typed j S' hj hS')
          refine S'.loc _ _ _ (fun t ht => ?_) hold
          cases hd : o.dst with
          | none => simp [Act.put]
          | some d =>
            have hja : i ∉ A.getD j [] := by
              intro hmem
              obtain ⟨oj, hoj⟩ : ∃ oj, ops[j]? = some oj := ⟨_, Array.getElem?_eq_getElem (by have := (List.getElem?_eq_some_iff.1 hS').1; omega)⟩
              have := Z1f hok hI.closed hI.sz j oj hoj (hI.closed j oj hj hoj) i hmem
              rw [Z0r his false true, hun] at this
              cases this
            have hne : d ≠ t := fun e => (h3 d hd).2 j S' hS' (fun e => hji e.symm) hja (e ▸ ht)
            simp [Act.put, Array.getElem?_setIfInBounds_ne hne]
      · intro j hj
        have : i ≠ j := by omega
        rw [getD_set_ne false this]
        exact hI.un j hj
    have hk : ∀ v w', R w w' → I (upd (fun j => listed.getD j false) i) w' → S.T (a.put o.dst v) w' → wpAny P .any ops Q fuel (listed.setIfInBounds i true) (a.put o.dst v) w' :=
      fun v w' hRw hR hT => ih _ _ _ (hnext v w' hRw hR hT) (count_set his hun _ hcnt)
    unfold wpOp
    simp only [ho]
    rcases hst with ⟨hw, hy⟩ | ⟨hw, hJ, hT⟩
    · rw [if_pos hw]
      refine .inl ?_
      unfold YieldsR at hy
      unfold Oper.wp
      generalize (execOp a.eval o).run P w = r at hy ⊢
      cases r with
      | halt x w' => exact hy.elim
      | ok n w' =>
        cases n <;> simp only [Oper.upon] at hy ⊢
        case value v => exact hk v w' hy.1 hy.2.1 hy.2.2
        case skip => exact hk undef w' hy.1 hy.2.1 hy.2.2
        case enter f args =>
          refine hy.mono fun e w'' ⟨v, he, hRw, hR, hT⟩ => ?_
          subst he
          exact hk v w'' hRw hR hT
    · rw [if_neg (by rw [hw]; exact Bool.false_ne_true)]
      exact hk undef w (hrr w) hJ hT

inductive BuildR (P : Program) (R : World → World → Prop) (ops : Array Oper) (I : (Nat → Bool) → World → Prop) (a0 : Act) (D : List Tmp) (A : List (List Nat)) (G : List (Nat × TFact R) → Prop) : Nat → List Oper → List (Nat × TFact R) → Prop
  | stop {k : Nat} {os : List Oper} {done : List (Nat × TFact R)} (h : G done) : BuildR P R ops I a0 D A G k os done
  | step {k : Nat} {o : Oper} {os : List Oper} {done : List (Nat × TFact R)} (S : TFact R) (h : ∀ l a w, Env a0 D a → I l w → l k = false → (∀ i ∈ A.getD k [], l i = true) → (∀ (i : Nat) (S' : TFact R), i ∈ A.getD k [] → (i, S') ∈ done → S'.T a w) → opR P ops R (I (upd l k)) o S.T a w)
      (hr : BuildR P R ops I a0 D A G (k + 1) os ((k, S) :: done)) : BuildR P R ops I a0 D A G k (o :: os) done

variable {G : List (Nat × TFact R) → Prop} {k : Nat} {o : Oper} {os : List Oper} {done : List (Nat × TFact R)} {d : Tmp} {v : Value}
theorem BuildR.use (hb : BuildR P R ops I a0 D A G k os done) (hk : k = done.length) (hwf : ∀ (i : Nat) (S : TFact R), (i, S) ∈ done → (facts done)[i]? = some S) : ∃ fin : List (Nat × TFact R), G fin ∧ (∀ (i : Nat) (S : TFact R), (facts done)[i]? = some S → (facts fin)[i]? = some S) ∧
    (∀ (i : Nat) (S : TFact R), (i, S) ∈ fin → (facts fin)[i]? = some S) ∧ done.length ≤ fin.length ∧
    ∀ (i : Nat) (o : Oper) (S : TFact R), os[i]? = some o → (facts fin)[k + i]? = some S → ∀ l a w, Env a0 D a → I l w → l (k + i) = false → (∀ j ∈ A.getD (k + i) [], l j = true) → (∀ (j : Nat) (S' : TFact R), j ∈ A.getD (k + i) [] → (facts fin)[j]? = some S' → S'.T a w) → opR P ops R (I (upd l (k + i))) o S.T a w := by
  induction hb with
  | stop h =>
    rename_i k os done
    refine ⟨done, h, fun _ _ h => h, hwf, Nat.le_refl _, fun i o S _ hS => ?_⟩
    rw [List.getElem?_eq_none (by rw [Z0w]; omega)] at hS
    cases hS
  | step S h hr ih =>
    rename_i k o os done
    have hpre0 : ∀ (i : Nat) (S' : TFact R), (facts done)[i]? = some S' → (facts ((k, S) :: done))[i]? = some S' := fun i S' hi => by
      have hlt := (List.getElem?_eq_some_iff.1 hi).1
      rw [Z1d, List.getElem?_append_left hlt]; exact hi
    obtain ⟨fin, hG, h1, hw, h2, h4⟩ := ih (by simp [hk]) (fun i S' hm => by
      rcases List.mem_cons.1 hm with he | hm
      · cases he
        rw [Z1d, hk, ← Z0w done]
        simp
      · exact hpre0 i S' (hwf i S' hm))
    refine ⟨fin, hG, fun i S' hi => h1 i S' (hpre0 i S' hi), hw, by simp at h2; omega, ?_⟩
    intro i o' S' hi hS
    cases i with
    | zero =>
      simp at hi
      subst hi
      have : (facts fin)[k + 0]? = some S := h1 k S (by rw [Z1d, hk, ← Z0w done]; simp)
      rw [this] at hS
      cases hS
      intro l a w hE hR hl hA hF
      exact h l a w hE hR hl hA (fun j S' hj hd => hF j S' hj (h1 j S' (hpre0 j S' (hwf j S' hd))))
    | succ i =>
      have := h4 i o' S' (by simpa using hi) (by rwa [show k + 1 + i = k + (i + 1) by omega])
      intro l a w hE hR hl hA hF
      rw [show k + (i + 1) = k + 1 + i by omega] at hl hA ⊢
      exact this l a w hE hR hl hA (fun j S' hj hd => hF j S' (by rwa [show k + (i + 1) = k + 1 + i by omega]) hd)



/-- Each operation's fact, shown once, and the invariant kept. -/
theorem Z38 {id : Nat} {l : List Oper} {w : World} (Fs : List (TFact R)) (A : List (List Nat)) (D : List Tmp) (hf : P.follows .mixedOrders = true) (hok : okB l.toArray D A (Fs.map TFact.L) Fs.length = true)
    (hm : (decide (Fs.length ≤ l.length) && (List.range l.length).all fun i => decide (i < Fs.length) || (List.range i).all fun j => (A.getD i []).contains j) = true)
    (hw0 : I (fun _ => false) w.drew)
    (hstep : ∀ (k : Nat) (o : Oper) (S : TFact R), l[k]? = some o → Fs[k]? = some S → ∀ L a w, Env a0 D a → I L w → L k = false → (∀ i ∈ A.getD k [], L i = true) → (∀ (i : Nat) (S' : TFact R), i ∈ A.getD k [] → Fs[i]? = some S' → S'.T a w) → opR P l.toArray R (I (upd L k)) o S.T a w)
    (hrr : ∀ w, R w w)
    (hend : ∀ L a w, Env a0 D a → I L w → (∀ i, i < Fs.length → L i = true) → (∀ (i : Nat) (S : TFact R), Fs[i]? = some S → S.T a w) → tailWp P l.toArray Q (l.length - Fs.length) Fs.length a w) :
    (Code.region id l.toArray true).wp P Q a0 w := by
  refine wp_region_any hf ?_
  simp only [Bool.and_eq_true, decide_eq_true_eq, List.all_eq_true, List.mem_range, Bool.or_eq_true, List.contains_iff_mem] at hm
  refine Z60 (a0 := a0) (I := I) (Fs := Fs) (A := A) (D := D) (m := Fs.length) hok rfl (by simpa using hm.1) ?_ (by simpa using hstep) hrr (by simpa using hend) _ _ _ _ ?_ (by simp)
  · intro i h1 h2 j hj
    rcases hm.2 i (by simpa using h2) with h | h
    · omega
    · exact h j hj
  · refine ⟨by simp, ⟨rfl, rfl, fun _ _ => rfl⟩, ?_, ?_, ?_, ?_⟩
    · have e : (fun i => (Array.replicate l.toArray.size false).getD i false) = fun _ => false := funext fun i => Z13 _ _
      rw [e]
      exact hw0
    · intro j o hj
      rw [Z13] at hj
      cases hj
    · intro i S hi
      rw [Z13] at hi
      cases hi
    · intro i _
      exact Z13 _ _

/-- The operations that are left: their weakest conditions, nested. -/
def tailOps (P : Program) (Q : Exit → Act → World → Prop) : List Oper → Act → World → Prop
  | [], a, w => Q .normal a w
  | o :: os, a, w => o.wp P a w (fun a w => tailOps P Q os a w) Q
theorem Z43 (l : List Oper) : ∀ (os : List Oper) (m : Nat), l.drop m = os → (os.all fun o => o.guard.isNone) = true → ∀ a w, tailOps P Q os a w → tailWp P l.toArray Q os.length m a w := by
  intro os
  induction os with
  | nil => intro m _ _ a w h; exact h
  | cons o os ih =>
    intro m hd hg a w h
    have ho : l[m]? = some o := by
      have := congrArg (fun x => x[0]?) hd
      simpa using this
    have hd' : l.drop (m + 1) = os := by
      rw [← List.drop_drop, hd]
      rfl
    simp only [List.all_cons, Bool.and_eq_true, Option.isNone_iff_eq_none] at hg
    show wpOp P l.toArray Q m _ a w
    unfold wpOp
    simp only [List.getElem?_toArray, ho]
    rw [if_pos (Z0c hg.1)]
    refine .inl ?_
    refine Oper.wp_mono ?_ h
    intro a' w' h'
    exact ih (m + 1) hd' (by simpa using hg.2) a' w' h'

def FinR (P : Program) (l : List Oper) (I : (Nat → Bool) → World → Prop) (a0 : Act) (D : List Tmp) (A : List (List Nat)) (Q : Exit → Act → World → Prop) (fin : List (Nat × TFact R)) : Prop :=
  (okB l.toArray D A ((facts fin).map TFact.L) fin.length && (decide (fin.length ≤ l.length) && (List.range l.length).all fun i => decide (i < fin.length) || (List.range i).all fun j => (A.getD i []).contains j) && (l.drop fin.length).all fun o => o.guard.isNone) = true ∧
    ∀ L a w, Env a0 D a → I L w → (∀ i, i < fin.length → L i = true) → (∀ (i : Nat) (S : TFact R), (i, S) ∈ fin → S.T a w) → tailOps P Q (l.drop fin.length) a w
theorem Z4j {id : Nat} {l : List Oper} {w : World} (R : World → World → Prop) (I : (Nat → Bool) → World → Prop) (A : List (List Nat)) (D : List Tmp) (hrr : ∀ w, R w w) (hw0 : I (fun _ => false) w.drew) (hf : P.follows .mixedOrders = true)
    (h : BuildR P R l.toArray I a0 D A (FinR P l I a0 D A Q) 0 l []) : (Code.region id l.toArray true).wp P Q a0 w := by
  obtain ⟨fin, ⟨hok, hG⟩, -, hw, -, hstep⟩ := h.use rfl (fun _ _ h => by cases h)
  have hlen := Z0w fin
  rw [Bool.and_eq_true, Bool.and_eq_true] at hok
  refine Z38 (I := I) (facts fin) A D hf (by rw [hlen]; exact hok.1.1) (by rw [hlen]; exact hok.1.2) hw0 (fun k o S h1 h2 L a w hE hR hl hA hF => by
    have := hstep k o S h1 (by simpa using h2) L a w hE hR (by simpa using hl) (by simpa using hA) (by simpa using hF)
    simpa using this) hrr (fun L a w hE hR hA hF => ?_)
  rw [hlen] at hA ⊢
  have := Z43 l (l.drop fin.length) fin.length rfl hok.2 a w (hG L a w hE hR hA (fun i S hm => hF i S (hw i S hm)))
  simpa using this

theorem BuildR.det (d : Tmp) {v : Value} (hrr : ∀ w, R w w) (hI : ∀ l w, I l w → I (upd l k) w) (hd : o.dst = some d) (hn : Nat.blt d a0.tmps.size = true) (hg : o.guard = none)
    (h : ∀ l a w, Env a0 D a → I l w → (∀ (i : Nat) (S' : TFact R), i ∈ A.getD k [] → (i, S') ∈ done → S'.T a w) → (execOp a.eval o).run P w = .ok (.value v) w)
    (hr : BuildR P R ops I a0 D A G (k + 1) os ((k, Proofs.Ytdeocidlkpbhcaa.det d v) :: done)) : BuildR P R ops I a0 D A G k (o :: os) done :=
  .step _ (fun l a w hE hR _ _ hF => .inl ⟨Z0c hg, by
    unfold YieldsR
    rw [h l a w hE hR hF]
    exact ⟨hrr w, hI l w hR, by rw [hd]; exact Z0h (by rw [hE.size]; exact Nat.le_of_ble_eq_true hn)⟩⟩) hr
/-- A guarded one that is wanted. -/
theorem BuildR.detg (d : Tmp) {v : Value} {j dj : Nat} {b : Bool} (hrr : ∀ w, R w w) (hI : ∀ l w, I l w → I (upd l k) w) (hd : o.dst = some d) (hn : Nat.blt d a0.tmps.size = true) (hg : o.guard = some (j, b)) (hj : (ops[j]?).bind (·.dst) = some dj)
    (h : ∀ l a w, Env a0 D a → I l w → (∀ (i : Nat) (S' : TFact R), i ∈ A.getD k [] → (i, S') ∈ done → S'.T a w) → a.eval (.tmp dj) = .bool b ∧ (execOp a.eval o).run P w = .ok (.value v) w)
    (hr : BuildR P R ops I a0 D A G (k + 1) os ((k, Proofs.Ytdeocidlkpbhcaa.det d v) :: done)) : BuildR P R ops I a0 D A G k (o :: os) done :=
  .step _ (fun l a w hE hR _ _ hF => .inl ⟨(Z1h hg hj (h l a w hE hR hF).1).trans (by simp), by
    unfold YieldsR
    rw [(h l a w hE hR hF).2]
    exact ⟨hrr w, hI l w hR, by rw [hd]; exact Z0h (by rw [hE.size]; exact Nat.le_of_ble_eq_true hn)⟩⟩) hr
/-- A guarded one that is not. -/
theorem BuildR.skip (d : Tmp) {j dj : Nat} {b : Bool} (hI : ∀ l w, I l w → I (upd l k) w) (hd : o.dst = some d) (hn : Nat.blt d a0.tmps.size = true) (hg : o.guard = some (j, b)) (hj : (ops[j]?).bind (·.dst) = some dj)
    (h : ∀ l a w, Env a0 D a → I l w → (∀ (i : Nat) (S' : TFact R), i ∈ A.getD k [] → (i, S') ∈ done → S'.T a w) → a.eval (.tmp dj) = .bool (!b))
    (hr : BuildR P R ops I a0 D A G (k + 1) os ((k, Proofs.Ytdeocidlkpbhcaa.det d undef) :: done)) : BuildR P R ops I a0 D A G k (o :: os) done :=
  .step _ (fun l a w hE hR _ _ hF => .inr ⟨(Z1h hg hj (h l a w hE hR hF)).trans (by simp), hI l w hR, by rw [hd]; exact Z0h (by rw [hE.size]; exact Nat.le_of_ble_eq_true hn)⟩) hr
/-- A call; its law may ask what is done. -/
theorem BuildR.call (d : Tmp) {v : Value} {f : FuncId} {args : Array Value} (hd : o.dst = some d) (hn : Nat.blt d a0.tmps.size = true) (hg : o.guard = none)
    (h : ∀ l a w, Env a0 D a → I l w → (∀ (i : Nat) (S' : TFact R), i ∈ A.getD k [] → (i, S') ∈ done → S'.T a w) → (execOp a.eval o).run P w = .ok (.enter f args) w)
    (hc : ∀ l w, I l w → l k = false → (∀ i ∈ A.getD k [], l i = true) → Calls P f args w fun e w' => e = .returned v ∧ R w w' ∧ I (upd l k) w')
    (hr : BuildR P R ops I a0 D A G (k + 1) os ((k, Proofs.Ytdeocidlkpbhcaa.det d v) :: done)) : BuildR P R ops I a0 D A G k (o :: os) done :=
  .step _ (fun l a w hE hR hl hA hF => .inl ⟨Z0c hg, by
    unfold YieldsR
    rw [h l a w hE hR hF]
    exact (hc l w hR hl hA).mono fun e w' ⟨he, hRw, hI⟩ => ⟨v, he, hRw, hI, by rw [hd]; exact Z0h (by rw [hE.size]; exact Nat.le_of_ble_eq_true hn)⟩⟩) hr
/-- One that makes something of its own. -/
theorem BuildR.new (d : Tmp) (φ : Value → World → Prop) (hφ : ∀ v w w', R w w' → φ v w → φ v w') (hd : o.dst = some d) (hn : Nat.blt d a0.tmps.size = true) (hg : o.guard = none)
    (h : ∀ l a w, Env a0 D a → I l w → l k = false → (∀ i ∈ A.getD k [], l i = true) → (∀ (i : Nat) (S' : TFact R), i ∈ A.getD k [] → (i, S') ∈ done → S'.T a w) → ∃ v w', (execOp a.eval o).run P w = .ok (.value v) w' ∧ R w w' ∧ I (upd l k) w' ∧ φ v w')
    (hr : BuildR P R ops I a0 D A G (k + 1) os ((k, fresh d φ hφ) :: done)) : BuildR P R ops I a0 D A G k (o :: os) done :=
  .step _ (fun l a w hE hR hl hA hF => by
    obtain ⟨v, w', h1, h2, h3, h4⟩ := h l a w hE hR hl hA hF
    refine .inl ⟨Z0c hg, ?_⟩
    unfold YieldsR
    rw [h1]
    exact ⟨h2, h3, by rw [hd]; show φ ((a.put (some d) v).eval (.tmp d)) w'; rw [Z0h (by rw [hE.size]; exact Nat.le_of_ble_eq_true hn)]; exact h4⟩) hr
theorem BuildR.callnew (d : Tmp) (φ : Value → World → Prop) (hφ : ∀ v w w', R w w' → φ v w → φ v w') {f : FuncId} {args : Array Value} (hd : o.dst = some d) (hn : Nat.blt d a0.tmps.size = true) (hg : o.guard = none)
    (h : ∀ l a w, Env a0 D a → I l w → (∀ (i : Nat) (S' : TFact R), i ∈ A.getD k [] → (i, S') ∈ done → S'.T a w) → (execOp a.eval o).run P w = .ok (.enter f args) w)
    (hc : ∀ l w, I l w → l k = false → (∀ i ∈ A.getD k [], l i = true) → Calls P f args w fun e w' => ∃ v, e = .returned v ∧ R w w' ∧ I (upd l k) w' ∧ φ v w')
    (hr : BuildR P R ops I a0 D A G (k + 1) os ((k, fresh d φ hφ) :: done)) : BuildR P R ops I a0 D A G k (o :: os) done :=
  .step _ (fun l a w hE hR hl hA hF => .inl ⟨Z0c hg, by
    unfold YieldsR
    rw [h l a w hE hR hF]
    exact (hc l w hR hl hA).mono fun e w' ⟨v, he, hRw, hI, hv⟩ => ⟨v, he, hRw, hI, by rw [hd]; show φ ((a.put (some d) v).eval (.tmp d)) w'; rw [Z0h (by rw [hE.size]; exact Nat.le_of_ble_eq_true hn)]; exact hv⟩⟩) hr
end
end Go.Proofs.Ytdeocidlkpbhcaa

/- leaf: pairs, rise. -/
namespace Go.Proofs.Ytdeocidlkpbhcaa
attribute [local simp] BigFrame.eval_const BigFrame.eval_global BigFrame.eval_func
set_option linter.unusedVariables false
set_option linter.unusedSimpArgs false
open Go.RowKit

def pairC (x : Nat × Nat) : List Value := [.int .u64 x.1, .int .u64 x.2]
def keyAt (xs : List (Nat × Nat)) (i : Nat) : Nat := (xs.getD i (0, 0)).1
def riseB (xs : List (Nat × Nat)) : Bool := decide (∀ i, i < xs.length → i + 1 < xs.length → keyAt xs i < keyAt xs (i + 1))
theorem Row.pair_in {w w' : World} {A : Option Addr} {xs : List (Nat × Nat)} (h : Row w A 2 pairC xs) (hb : Below w.heap.size w w') {j : Nat} (hj : j < xs.length) :
    ∃ b o, A = some ⟨b, o, none⟩ ∧ b < w.heap.size ∧ w'.cell? ⟨b, o + j * 2, none⟩ = some (.int .u64 xs[j].1) ∧ w'.cell? ⟨b, o + j * 2 + 1, none⟩ = some (.int .u64 xs[j].2) := by
  obtain ⟨b, o, hA, hlt, hc⟩ := h.in_ hb hj
  exact ⟨b, o, hA, hlt, hc 0 _ rfl, hc 1 _ rfl⟩
theorem Row.key_at {w w' : World} {b o : Nat} {xs : List (Nat × Nat)} (h : Row w (some ⟨b, o, none⟩) 2 pairC xs) (hb : Below w.heap.size w w') {j : Nat} (hj : j < xs.length) : w'.cell? ⟨b, o + j * 2, none⟩ = some (.int .u64 (keyAt xs j)) := by
  obtain ⟨b', o', he, _, hc, _⟩ := h.pair_in hb hj
  cases he
  rw [hc]
  simp [keyAt, List.getD, hj]

set_option maxHeartbeats 1000000 in
theorem rise_any (A : Option Addr) (len cap : Nat) (xs : List (Nat × Nat)) (w : World) (hlen : xs.length = len) (hm : len ≤ 1000000) (hrow : Row w A 2 pairC xs) (hx : ∀ x ∈ xs, x.1 < 18446744073709551616) :
    Calls Try.prog 42 #[.slice A len cap] w fun e w' => e = .returned (.bool (riseB xs)) ∧ Ext w w' := by
  have hk : ∀ j, keyAt xs j < 18446744073709551616 := by
    intro j
    unfold keyAt
    by_cases hj : j < xs.length
    · have := hx _ (List.getElem_mem hj); simpa [List.getD, hj] using this
    · simp [List.getD, hj]
  have HK := Lib.hid hk
  clear hk hx
  go_enter Try.func42, Try.ntmps42
  go_wp2_with fail
  go_loopw [3] (fun i wr => ∃ j : Nat, i = .int .i64 ((j + 1 : Nat) : Int) ∧ (j + 1 ≤ len ∨ j = 0) ∧ Ext w wr ∧ Hid (∀ i, i < j → i + 1 < xs.length → keyAt xs i < keyAt xs (i + 1))) (fun i _ => len - (intOf i).toNat)
  case atStart => exact ⟨0, rfl, .inr rfl, Ext.refl _, fun i hi => absurd hi (by omega)⟩
  case round =>
    obtain ⟨j, rfl, hj, hEx, HJ⟩ := hrel
    by_cases hlt : j + 1 < len
    · obtain ⟨b0, o0, rfl, hlt0, -, -⟩ := hrow.pair_in hEx (show j < xs.length by omega)
      have HQ := Lib.hid (fun (W : World) (h : Ext wr W) => And.intro (hrow.key_at (hEx.trans h) (show j < xs.length by omega)) (hrow.key_at (hEx.trans h) (show j + 1 < xs.length by omega)))
      have h1 := HK.out j
      have h2 := HK.out (j + 1)
      have HJ1 := Lib.hid (show ∀ i, i < j + 1 → i + 1 < xs.length → (keyAt xs j < keyAt xs (j + 1)) → keyAt xs i < keyAt xs (i + 1) from fun i hi hl hh => by
        by_cases e : i = j
        · subst e; exact hh
        · exact HJ.out i (by omega) hl)
      have HN := Lib.hid (show ¬ keyAt xs j < keyAt xs (j + 1) → riseB xs = false from fun hh => by
        unfold riseB
        rw [decide_eq_false_iff_not]
        exact fun h => hh (h j (by omega) (by omega)))
      generalize keyAt xs j = k0 at HQ h1 HJ1 HN
      generalize keyAt xs (j + 1) = k1 at HQ h2 HJ1 HN
      have hsub : IntKind.i64.wrap (((j + 1 : Nat) : Int) - 1) = (j : Int) := by rw [IntWalk.i64_in _ (by omega)]; omega
      have hsub2 : IntKind.i64.wrap (j : Int) = (j : Int) := IntWalk.i64_in _ (by omega)
      go_upto_region 4 with fail
      refine Z0d (R := Ext) (w0 := wr) [[], [], [1], [0, 1, 2], [0, 1, 2, 3], [0, 1, 2, 3, 4], [], [], [6, 7], [6, 7, 8], [6, 7, 8, 9], [0, 1, 2, 3, 4, 5, 6, 7, 8, 9, 10]] [10, 11, 12, 13, 14, 15, 16, 17, 18, 19, 20, 21] Ext.refl (fun _ _ _ => Ext.trans) (Ext.drew _) (by kernel_rfl) ?_
      apply Build.det 10 Ext.refl (by rfl) (by rfl) rfl
      case h =>
        intro ax wx hE hR hF
        have e0 : ax.eval (.tmp 0) = .slice (some ⟨b0, o0, none⟩) len cap := hE.eval 0 (by rfl) rfl
        simp [go_sem, ↓IntWalk.iteOmega, ev e0, hsub, hsub2]
        with_reducible rfl
      apply Build.det 11 Ext.refl (by rfl) (by rfl) rfl
      case h =>
        intro ax wx hE hR hF
        have e3 : ax.eval (.tmp 3) = .int .i64 ((j + 1 : Nat) : Int) := hE.eval 3 (by rfl) rfl
        simp [go_sem, ↓IntWalk.iteOmega, ev e3, hsub, hsub2]
        with_reducible rfl
      apply Build.det 12 Ext.refl (by rfl) (by rfl) rfl
      case h =>
        intro ax wx hE hR hF
        have e11 := hF 1 (det 11 _) (by decide) (.head _)
        simp [go_sem, ↓IntWalk.iteOmega, ev e11, hsub, hsub2]
        with_reducible rfl
      apply Build.det 13 Ext.refl (by rfl) (by rfl) rfl
      case h =>
        intro ax wx hE hR hF
        have e10 := hF 0 (det 10 _) (by decide) (.tail _ (.tail _ (.head _)))
        have e12 := hF 2 (det 12 _) (by decide) (.head _)
        simp [go_sem, ↓IntWalk.iteOmega, ev e10, ev e12, hsub, hsub2]
        with_reducible rfl
      apply Build.det 14 Ext.refl (by rfl) (by rfl) rfl
      case h =>
        intro ax wx hE hR hF
        have e13 := hF 3 (det 13 _) (by decide) (.head _)
        simp [go_sem, ↓IntWalk.iteOmega, ev e13, hsub, hsub2]
        with_reducible rfl
      apply Build.det 15 Ext.refl (by rfl) (by rfl) rfl
      case h =>
        intro ax wx hE hR hF
        have e14 := hF 4 (det 14 _) (by decide) (.head _)
        have q0 := (HQ.out _ hR).1; have q1 := (HQ.out _ hR).2
        simp [go_sem, ↓IntWalk.iteOmega, ev e14, hsub, hsub2, q0, q1]
        with_reducible rfl
      apply Build.det 16 Ext.refl (by rfl) (by rfl) rfl
      case h =>
        intro ax wx hE hR hF
        have e0 : ax.eval (.tmp 0) = .slice (some ⟨b0, o0, none⟩) len cap := hE.eval 0 (by rfl) rfl
        simp [go_sem, ↓IntWalk.iteOmega, ev e0, hsub, hsub2]
        with_reducible rfl
      apply Build.det 17 Ext.refl (by rfl) (by rfl) rfl
      case h =>
        intro ax wx hE hR hF
        have e3 : ax.eval (.tmp 3) = .int .i64 ((j + 1 : Nat) : Int) := hE.eval 3 (by rfl) rfl
        simp [go_sem, ↓IntWalk.iteOmega, ev e3, hsub, hsub2]
        with_reducible rfl
      apply Build.det 18 Ext.refl (by rfl) (by rfl) rfl
      case h =>
        intro ax wx hE hR hF
        have e16 := hF 6 (det 16 _) (by decide) (.tail _ (.head _))
        have e17 := hF 7 (det 17 _) (by decide) (.head _)
        simp [go_sem, ↓IntWalk.iteOmega, ev e16, ev e17, hsub, hsub2]
        with_reducible rfl
      apply Build.det 19 Ext.refl (by rfl) (by rfl) rfl
      case h =>
        intro ax wx hE hR hF
        have e18 := hF 8 (det 18 _) (by decide) (.head _)
        simp [go_sem, ↓IntWalk.iteOmega, ev e18, hsub, hsub2]
        with_reducible rfl
      apply Build.det 20 Ext.refl (by rfl) (by rfl) rfl
      case h =>
        intro ax wx hE hR hF
        have e19 := hF 9 (det 19 _) (by decide) (.head _)
        have q0 := (HQ.out _ hR).1; have q1 := (HQ.out _ hR).2
        simp [go_sem, ↓IntWalk.iteOmega, ev e19, hsub, hsub2, q0, q1]
        with_reducible rfl
      apply Build.det 21 Ext.refl (by rfl) (by rfl) rfl
      case h =>
        intro ax wx hE hR hF
        have e15 := hF 5 (det 15 _) (by decide) (.tail _ (.tail _ (.tail _ (.tail _ (.tail _ (.head _))))))
        have e20 := hF 10 (det 20 _) (by decide) (.head _)
        simp [go_sem, ↓IntWalk.iteOmega, ev e15, ev e20, hsub, hsub2]
        with_reducible rfl
      apply Build.stop
      refine ⟨by kernel_rfl, .inl ⟨rfl, ?_⟩⟩
      intro ax w2 hE R2 hF
      have e10 := hF 0 (det 10 _) (.tail _ (.tail _ (.tail _ (.tail _ (.tail _ (.tail _ (.tail _ (.tail _ (.tail _ (.tail _ (.tail _ (.head _))))))))))))
      have e11 := hF 1 (det 11 _) (.tail _ (.tail _ (.tail _ (.tail _ (.tail _ (.tail _ (.tail _ (.tail _ (.tail _ (.tail _ (.head _)))))))))))
      have e12 := hF 2 (det 12 _) (.tail _ (.tail _ (.tail _ (.tail _ (.tail _ (.tail _ (.tail _ (.tail _ (.tail _ (.head _))))))))))
      have e13 := hF 3 (det 13 _) (.tail _ (.tail _ (.tail _ (.tail _ (.tail _ (.tail _ (.tail _ (.tail _ (.head _)))))))))
      have e14 := hF 4 (det 14 _) (.tail _ (.tail _ (.tail _ (.tail _ (.tail _ (.tail _ (.tail _ (.head _))))))))
      have e15 := hF 5 (det 15 _) (.tail _ (.tail _ (.tail _ (.tail _ (.tail _ (.tail _ (.head _)))))))
      have e16 := hF 6 (det 16 _) (.tail _ (.tail _ (.tail _ (.tail _ (.tail _ (.head _))))))
      have e17 := hF 7 (det 17 _) (.tail _ (.tail _ (.tail _ (.tail _ (.head _)))))
      have e18 := hF 8 (det 18 _) (.tail _ (.tail _ (.tail _ (.head _))))
      have e19 := hF 9 (det 19 _) (.tail _ (.tail _ (.head _)))
      have e20 := hF 10 (det 20 _) (.tail _ (.head _))
      have e21 := hF 11 (det 21 _) (.head _)
      rw [AllEq.frame (D := [10, 11, 12, 13, 14, 15, 16, 17, 18, 19, 20, 21]) (AllEq.cons e10 (AllEq.cons e11 (AllEq.cons e12 (AllEq.cons e13 (AllEq.cons e14 (AllEq.cons e15 (AllEq.cons e16 (AllEq.cons e17 (AllEq.cons e18 (AllEq.cons e19 (AllEq.cons e20 (AllEq.cons e21 (AllEq.nil))))))))))))) hE rfl]
      clear hF hE e10 e11 e12 e13 e14 e15 e16 e17 e18 e19 e20 e21
      simp only [List.foldl_cons, List.foldl_nil, Act.put, List.setIfInBounds_toArray, List.set_cons_succ, List.set_cons_zero]

      have hE := hEx.trans R2
      by_cases hh : k0 < k1
      · have hd : decide (k1 ≤ k0) = false := by rw [decide_eq_false_iff_not]; omega
        have hd2 : decide ((k1 : Int) ≤ (k0 : Int)) = false := by rw [decide_eq_false_iff_not]; omega
        go_wp2_with fail
        go_roundw
        case rel => exact ⟨j + 1, by go_num, .inl (by omega), hE, fun i hi hl => HJ1.out i hi hl hh⟩
        case measure => simp [intOf]; omega
      · have hd : decide (k1 ≤ k0) = true := by rw [decide_eq_true_iff]; omega
        have hd2 : decide ((k1 : Int) ≤ (k0 : Int)) = true := by rw [decide_eq_true_iff]; omega
        go_wp2_with fail
        go_ret
        exact ⟨Z4w (HN.out hh).symm, hE⟩
    · have HR : Hid (riseB xs = true) := by
        show riseB xs = true
        unfold riseB
        rw [decide_eq_true_iff]
        exact fun i hi hl => HJ.out i (by omega) hl
      go_wp2_with fail
      go_ret
      exact ⟨Z4w HR.out.symm, hEx⟩
end Go.Proofs.Ytdeocidlkpbhcaa
