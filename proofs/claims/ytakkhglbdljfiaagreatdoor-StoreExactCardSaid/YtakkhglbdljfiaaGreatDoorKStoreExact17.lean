/- Rows of bytes of one's own: made, filled, turned into strings. No function of the program in sight. -/
import Derived.Test.YtakkhglbdljfiaaGreatDoorKStoreExact01
import Derived.Test.YtakkhglbdljfiaaGreatDoorKStoreExact02
import Derived.Test.YtakkhglbdljfiaaGreatDoorKStoreExact07
import Derived.Laws.OwnMore
import Derived.Test.YtakkhglbdljfiaaGreatDoorKStoreExact15
import Derived.Test.YtakkhglbdljfiaaGreatDoorKStoreExact04
namespace Go.Proofs.YtakkhglbdljfiaaGreatDoor
set_option linter.unusedVariables false
set_option linter.unusedSimpArgs false
open Go.RowKit

def u8V (b : UInt8) : Value := .int .u8 (b.toNat : Int)
theorem info_u8 : ∃ i : TypeInfo, Tryz.prog.info? 5 = some i ∧ i.zero = some (.int .u8 0) ∧ i.size = 1 ∧ i.bytes = 1 := by
  have h : (Tryz.prog.info? 5).map (fun i => (i.zero, i.size, i.bytes)) = some (some (.int .u8 0), 1, 1) := by kernel_rfl
  exact info_parts h
theorem mk_bytes (w : World) (n : Nat) (hn : n ≤ 10000000) : ∃ g w', (Instr.makeSlice 81 (.int .i64 n) (.int .i64 n)).run Tryz.prog w = .ok (.slice (some ⟨g, 0, none⟩) n n) w' ∧
    w'.ownsRow w.heap.size 5 1 (.slice (some ⟨g, 0, none⟩) n n) n (List.replicate n (u8V 0)) ∧ Ext w w' := by
  obtain ⟨i, hi, hz, hs, hb⟩ := info_u8
  obtain ⟨w', h1, h2, h3⟩ := run_makeSlice_full (P := Tryz.prog) w w.heap.size 81 5 i (.int .u8 0) 1 Tryz.underlying81 hi hz hs .i64 .i64 n (by omega) (by rw [hb]; omega) (by unfold maxLen; omega) (Nat.le_refl _)
  refine ⟨_, w', h1, ?_, ⟨h3.os, h3.tape, h3.output, h3.size, fun i hi => h3.block i hi (by simp)⟩⟩
  have e : (madeCells (Value.int .u8 0).cells (n * 1)).toList = List.replicate n (u8V 0) := by
    have := h2.1
    apply List.ext_getElem?
    intro i
    by_cases hi : i < n
    · rw [List.getElem?_replicate, if_pos hi]
      simp [madeCells, Value.cells, hi, Nat.mod_one]
      rfl
    · rw [List.getElem?_eq_none (by rw [this]; omega), List.getElem?_eq_none (by rw [List.length_replicate]; omega)]
  rw [e] at h2
  exact h2
theorem x_make {o : Oper} {ρ : Operand → Value} {x y : Operand} {t : TypeId} {v v' u : Value} {w w' : World} (ho : o.op = .makeSlice t x y) (hx : ρ x = v) (hy : ρ y = v') (h : (Instr.makeSlice t v v').run Tryz.prog w = .ok u w') : (execOp ρ o).run Tryz.prog w = .ok (.value u) w' := by
  simp [execOp, ho, hx, hy, h]
theorem Z4s {o : Oper} {ρ : Operand → Value} {x : Operand} {t u : TypeId} {v v' : Value} {w w' : World} (ho : o.op = .convert t u x) (hx : ρ x = v) (h : (convert t u v).run Tryz.prog w = .ok v' w') : (execOp ρ o).run Tryz.prog w = .ok (.value v') w' := by
  simp [execOp, ho, hx, h]
/-- 'string(b)' of a row of bytes. -/
theorem conv_rowR {w : World} {g n cap : Nat} {l : List UInt8} (h : w.ownsRow 0 5 1 (.slice (some ⟨g, 0, none⟩) n cap) n (l.map u8V)) (hl : l.length = n) :
    (convert 81 9 (.slice (some ⟨g, 0, none⟩) n cap)).run Tryz.prog w = .ok (.string (sB l)) w := by
  refine Z5k w g 0 cap l n hl (fun i hi => ?_)
  have hil : i < l.length := by omega
  rw [Nat.zero_add]
  refine (Z53 h (i := i) ?_).1
  rw [List.getElem?_map, List.getElem?_eq_getElem hil]
  simp [u8V, List.getD, hil]

section
variable {P : Program} {R : (Nat → Bool) → World → World → Prop} {ops : Array Oper} {I : (Nat → Bool) → Act → World → Prop} {a0 : Act} {D : List Tmp} {A : List (List Nat)} {Fs : List (TFactL R)} {m : Nat} {Q : Exit → Act → World → Prop}
structure MInv (ops : Array Oper) (I : (Nat → Bool) → Act → World → Prop) (a0 : Act) (D : List Tmp) (Fs : List (TFactL R)) (m : Nat) (listed : Array Bool) (a : Act) (w : World) : Prop where
  sz : listed.size = ops.size
  env : Env a0 D a
  inv : I (fun i => listed.getD i false) a w
  closed : ∀ j o, listed.getD j false = true → ops[j]? = some o → ∀ e ∈ o.after, Region.binds .any e = true → listed.getD e.on false = true
  typed : ∀ i S, listed.getD i false = true → Fs[i]? = some S → S.T a w
  un : ∀ i, m ≤ i → listed.getD i false = false

theorem phasedM_any (hok0 : okB ops D A (Fs.map TFactL.L) m = true) (hidx : ∀ (i : Nat) (S : TFactL R), Fs[i]? = some S → S.idx = i) (hlen : Fs.length = m) (hms : m ≤ ops.size) (hm : ∀ i, m ≤ i → i < ops.size → ∀ j, j < i → j ∈ A.getD i [])
    (hstep : ∀ (k : Nat) (o : Oper) (S : TFactL R), ops[k]? = some o → Fs[k]? = some S → ∀ l a w, Env a0 D a → I l a w → l k = false → (∀ i ∈ A.getD k [], l i = true) → (∀ (i : Nat) (S' : TFactL R), i ∈ A.getD k [] → Fs[i]? = some S' → S'.T a w) → opR P ops (R l) (fun _ => True) o (fun a w => S.T a w ∧ I (upd l k) a w) a w)
    (hrr : ∀ l w, R l w w)
    (hend : ∀ l a w, Env a0 D a → I l a w → (∀ i, i < m → l i = true) → (∀ (i : Nat) (S : TFactL R), Fs[i]? = some S → S.T a w) → tailWp P ops Q (ops.size - m) m a w) :
    ∀ (fuel : Nat) (listed : Array Bool) (a : Act) (w : World), MInv ops I a0 D Fs m listed a w → listed.toList.count false = fuel → wpAny P .any ops Q fuel listed a w := by
  have hok : okB ops D A ((plain Fs).map TFact.L) m = true := by rw [plain_L]; exact hok0
  intro fuel
  induction fuel with
  | zero =>
    intro listed a w hI h0
    obtain ⟨hr, hx⟩ := Z31 (ops := ops) listed hI.sz h0
    have hmm : m = ops.size := by
      by_cases h : m < ops.size
      · have := hx m h
        rw [hI.un m (Nat.le_refl _)] at this
        cases this
      · omega
    refine ⟨hr, ?_⟩
    have := hend _ a w hI.env hI.inv (fun i hi => hx i (by omega)) (fun i S hS => hI.typed i S (hx i (by have := (List.getElem?_eq_some_iff.1 hS).1; omega)) hS)
    rwa [show ops.size - m = 0 by omega] at this
  | succ fuel ih =>
    intro listed a w hI hcnt
    by_cases hall : ∀ j, j < m → listed.getD j false = true
    · exact Z6k hok hm (fuel + 1) m listed a w (Nat.le_refl _) hms hI.sz hall hI.un hI.closed hcnt (hend _ a w hI.env hI.inv hall (fun i S hS => hI.typed i S (hall i (by have := (List.getElem?_eq_some_iff.1 hS).1; omega)) hS))
    refine ⟨fun hr => (Z2r hok listed hI.sz fuel hcnt hr).elim, fun i hi => ?_⟩
    obtain ⟨hun, o, ho, hpre⟩ := mem_ready.1 hi
    have hio : i < ops.size := (Array.getElem?_eq_some_iff.1 ho).1
    have his : i < listed.size := by have := hI.sz; omega
    have hanc := Z1h hok hI.closed hI.sz i o ho hpre
    have him : i < m := by
      by_cases h : i < m
      · exact h
      · exact (hall (fun j hj => hanc j (hm i (by omega) hio j (by omega)))).elim
    obtain ⟨S, hS⟩ : ∃ S, Fs[i]? = some S := ⟨_, List.getElem?_eq_getElem (by omega)⟩
    have hst := hstep i o S ho hS _ a w hI.env hI.inv (by rw [Z0t his false true]; exact hun) hanc (fun j S' hj hS' => hI.typed j S' (hanc j hj) hS')
    have hnext : ∀ v w', R (fun j => listed.getD j false) w w' → I (upd (fun j => listed.getD j false) i) (a.put o.dst v) w' → S.T (a.put o.dst v) w' → MInv ops I a0 D Fs m (listed.setIfInBounds i true) (a.put o.dst v) w' := by
      intro v w' hRw hR hT
      obtain ⟨_, _, h3⟩ := Z59 hok ho
      have h3 := h3 him
      refine ⟨by simpa using hI.sz, ⟨?_, ?_, ?_⟩, by rw [Z3x his]; exact hR, Z2z his ho hpre hI.closed, ?_, ?_⟩
      · rw [← hI.env.size]; cases hd : o.dst <;> simp [Act.put]
      · rw [← hI.env.defers]; cases hd : o.dst <;> simp [Act.put]
      · intro t ht
        rw [← hI.env.keep t ht]
        cases hd : o.dst with
        | none => simp [Act.put]
        | some d =>
          have := (h3 d hd).1
          have hne : d ≠ t := fun e => ht (e ▸ this)
          simp [Act.put, Array.getElem?_setIfInBounds_ne hne]
      · intro j S' hj hS'
        by_cases hji : i = j
        · subst hji
          rw [hS] at hS'
          cases hS'
          exact hT
        · rw [getD_set_ne false hji] at hj
          have hold := S'.mono (fun j => listed.getD j false) _ w w' (by rw [hidx j S' hS']; exact hj) hRw (hI.typed j S' hj hS')
          refine S'.loc _ _ _ (fun t ht => ?_) hold
          cases hd : o.dst with
          | none => simp [Act.put]
          | some d =>
            have hja : i ∉ A.getD j [] := by
              intro hmem
              obtain ⟨oj, hoj⟩ : ∃ oj, ops[j]? = some oj := ⟨_, Array.getElem?_eq_getElem (by have := (List.getElem?_eq_some_iff.1 hS').1; omega)⟩
              have := Z1h hok hI.closed hI.sz j oj hoj (hI.closed j oj hj hoj) i hmem
              rw [Z0t his false true, hun] at this
              cases this
            obtain ⟨S2, hS2, hSL⟩ := plain_at hS'
            have hne : d ≠ t := fun e => (h3 d hd).2 j S2 hS2 (fun e => hji e.symm) hja (by rw [hSL]; exact e ▸ ht)
            simp [Act.put, Array.getElem?_setIfInBounds_ne hne]
      · intro j hj
        have : i ≠ j := by omega
        rw [getD_set_ne false this]
        exact hI.un j hj
    have hk : ∀ v w', R (fun j => listed.getD j false) w w' → I (upd (fun j => listed.getD j false) i) (a.put o.dst v) w' → S.T (a.put o.dst v) w' → wpAny P .any ops Q fuel (listed.setIfInBounds i true) (a.put o.dst v) w' :=
      fun v w' hRw hR hT => ih _ _ _ (hnext v w' hRw hR hT) (count_set his hun _ hcnt)
    unfold wpOp
    simp only [ho]
    rcases hst with ⟨hw, hy⟩ | ⟨hw, _, hT, hJ⟩
    · rw [if_pos hw]
      refine .inl ?_
      unfold YieldsR at hy
      unfold Oper.wp
      generalize (execOp a.eval o).run P w = r at hy ⊢
      cases r with
      | halt x w' => exact hy.elim
      | ok n w' =>
        cases n <;> simp only [Oper.upon] at hy ⊢
        case value v => exact hk v w' hy.1 hy.2.2.2 hy.2.2.1
        case skip => exact hk undef w' hy.1 hy.2.2.2 hy.2.2.1
        case enter f args =>
          refine hy.mono fun e w'' ⟨v, he, hRw, _, hT, hR⟩ => ?_
          subst he
          exact hk v w'' hRw hR hT
    · rw [if_neg (by rw [hw]; exact Bool.false_ne_true)]
      exact hk undef w (hrr _ w) hJ hT

inductive BuildM (P : Program) (R : (Nat → Bool) → World → World → Prop) (ops : Array Oper) (I : (Nat → Bool) → Act → World → Prop) (a0 : Act) (D : List Tmp) (A : List (List Nat)) (G : List (Nat × TFactL R) → Prop) : Nat → List Oper → List (Nat × TFactL R) → Prop
  | stop {k : Nat} {os : List Oper} {done : List (Nat × TFactL R)} (h : G done) : BuildM P R ops I a0 D A G k os done
  | step {k : Nat} {o : Oper} {os : List Oper} {done : List (Nat × TFactL R)} (S : TFactL R) (hx : S.idx = k) (h : ∀ l a w, Env a0 D a → I l a w → l k = false → (∀ i ∈ A.getD k [], l i = true) → (∀ (i : Nat) (S' : TFactL R), i ∈ A.getD k [] → (i, S') ∈ done → S'.T a w) → opR P ops (R l) (fun _ => True) o (fun a w => S.T a w ∧ I (upd l k) a w) a w)
      (hr : BuildM P R ops I a0 D A G (k + 1) os ((k, S) :: done)) : BuildM P R ops I a0 D A G k (o :: os) done

variable {G : List (Nat × TFactL R) → Prop} {k : Nat} {o : Oper} {os : List Oper} {done : List (Nat × TFactL R)} {d : Tmp} {v : Value}
theorem BuildM.use (hb : BuildM P R ops I a0 D A G k os done) (hk : k = done.length) (hwf : ∀ (i : Nat) (S : TFactL R), (i, S) ∈ done → (factsL done)[i]? = some S) (hxd : ∀ (i : Nat) (S : TFactL R), (factsL done)[i]? = some S → S.idx = i) : ∃ fin : List (Nat × TFactL R), G fin ∧ (∀ (i : Nat) (S : TFactL R), (factsL done)[i]? = some S → (factsL fin)[i]? = some S) ∧
    (∀ (i : Nat) (S : TFactL R), (i, S) ∈ fin → (factsL fin)[i]? = some S) ∧ (∀ (i : Nat) (S : TFactL R), (factsL fin)[i]? = some S → S.idx = i) ∧ done.length ≤ fin.length ∧
    ∀ (i : Nat) (o : Oper) (S : TFactL R), os[i]? = some o → (factsL fin)[k + i]? = some S → ∀ l a w, Env a0 D a → I l a w → l (k + i) = false → (∀ j ∈ A.getD (k + i) [], l j = true) → (∀ (j : Nat) (S' : TFactL R), j ∈ A.getD (k + i) [] → (factsL fin)[j]? = some S' → S'.T a w) → opR P ops (R l) (fun _ => True) o (fun a w => S.T a w ∧ I (upd l (k + i)) a w) a w := by
  induction hb with
  | stop h =>
    rename_i k os done
    refine ⟨done, h, fun _ _ h => h, hwf, hxd, Nat.le_refl _, fun i o S _ hS => ?_⟩
    rw [List.getElem?_eq_none (by rw [Z0w]; omega)] at hS
    cases hS
  | step S hx h hr ih =>
    rename_i k o os done
    have hpre0 : ∀ (i : Nat) (S' : TFactL R), (factsL done)[i]? = some S' → (factsL ((k, S) :: done))[i]? = some S' := fun i S' hi => by
      have hlt := (List.getElem?_eq_some_iff.1 hi).1
      rw [Z1c, List.getElem?_append_left hlt]; exact hi
    obtain ⟨fin, hG, h1, hw, hxf, h2, h4⟩ := ih (by simp [hk]) (fun i S' hm => by
      rcases List.mem_cons.1 hm with he | hm
      · cases he
        rw [Z1c, hk, ← Z0w done]
        simp
      · exact hpre0 i S' (hwf i S' hm)) (fun i S' hi => by
      rw [Z1c] at hi
      by_cases hlt : i < (factsL done).length
      · rw [List.getElem?_append_left hlt] at hi
        exact hxd i S' hi
      · have hle := (List.getElem?_eq_some_iff.1 hi).1
        rw [List.length_append] at hle
        have hle : i < (factsL done).length + 1 := hle
        have : i = (factsL done).length := by omega
        subst this
        rw [List.getElem?_append_right (Nat.le_refl _), Nat.sub_self] at hi
        simp at hi
        subst hi
        rw [hx, hk, Z0w])
    refine ⟨fin, hG, fun i S' hi => h1 i S' (hpre0 i S' hi), hw, hxf, by simp at h2; omega, ?_⟩
    intro i o' S' hi hS
    cases i with
    | zero =>
      simp at hi
      subst hi
      have : (factsL fin)[k + 0]? = some S := h1 k S (by rw [Z1c, hk, ← Z0w done]; simp)
      rw [this] at hS
      cases hS
      intro l a w hE hR hl hA hF
      exact h l a w hE hR hl hA (fun j S' hj hd => hF j S' hj (h1 j S' (hpre0 j S' (hwf j S' hd))))
    | succ i =>
      have := h4 i o' S' (by simpa using hi) (by rwa [show k + 1 + i = k + (i + 1) by omega])
      intro l a w hE hR hl hA hF
      rw [show k + (i + 1) = k + 1 + i by omega] at hl hA ⊢
      exact this l a w hE hR hl hA (fun j S' hj hd => hF j S' (by rwa [show k + (i + 1) = k + 1 + i by omega]) hd)



/-- Each operation's fact, shown once, and the invariant kept. -/
theorem Z3t {id : Nat} {l : List Oper} {w : World} (Fs : List (TFactL R)) (hidx : ∀ (i : Nat) (S : TFactL R), Fs[i]? = some S → S.idx = i) (A : List (List Nat)) (D : List Tmp) (hf : P.follows .mixedOrders = true) (hok : okB l.toArray D A (Fs.map TFactL.L) Fs.length = true)
    (hm : (decide (Fs.length ≤ l.length) && (List.range l.length).all fun i => decide (i < Fs.length) || (List.range i).all fun j => (A.getD i []).contains j) = true)
    (hw0 : I (fun _ => false) a0 w.drew)
    (hstep : ∀ (k : Nat) (o : Oper) (S : TFactL R), l[k]? = some o → Fs[k]? = some S → ∀ L a w, Env a0 D a → I L a w → L k = false → (∀ i ∈ A.getD k [], L i = true) → (∀ (i : Nat) (S' : TFactL R), i ∈ A.getD k [] → Fs[i]? = some S' → S'.T a w) → opR P l.toArray (R L) (fun _ => True) o (fun a w => S.T a w ∧ I (upd L k) a w) a w)
    (hrr : ∀ l w, R l w w)
    (hend : ∀ L a w, Env a0 D a → I L a w → (∀ i, i < Fs.length → L i = true) → (∀ (i : Nat) (S : TFactL R), Fs[i]? = some S → S.T a w) → tailWp P l.toArray Q (l.length - Fs.length) Fs.length a w) :
    (Code.region id l.toArray true).wp P Q a0 w := by
  refine wp_region_any hf ?_
  simp only [Bool.and_eq_true, decide_eq_true_eq, List.all_eq_true, List.mem_range, Bool.or_eq_true, List.contains_iff_mem] at hm
  refine phasedM_any (a0 := a0) (I := I) (Fs := Fs) (A := A) (D := D) (m := Fs.length) hok hidx rfl (by simpa using hm.1) ?_ (by simpa using hstep) hrr (by simpa using hend) _ _ _ _ ?_ (by simp)
  · intro i h1 h2 j hj
    rcases hm.2 i (by simpa using h2) with h | h
    · omega
    · exact h j hj
  · refine ⟨by simp, ⟨rfl, rfl, fun _ _ => rfl⟩, ?_, ?_, ?_, ?_⟩
    · have e : (fun i => (Array.replicate l.toArray.size false).getD i false) = fun _ => false := funext fun i => Z16 _ _
      rw [e]
      exact hw0
    · intro j o hj
      rw [Z16] at hj
      cases hj
    · intro i S hi
      rw [Z16] at hi
      cases hi
    · intro i _
      exact Z16 _ _

def FinM (P : Program) (l : List Oper) (I : (Nat → Bool) → Act → World → Prop) (a0 : Act) (D : List Tmp) (A : List (List Nat)) (Q : Exit → Act → World → Prop) (fin : List (Nat × TFactL R)) : Prop :=
  (okB l.toArray D A ((factsL fin).map TFactL.L) fin.length && (decide (fin.length ≤ l.length) && (List.range l.length).all fun i => decide (i < fin.length) || (List.range i).all fun j => (A.getD i []).contains j) && (l.drop fin.length).all fun o => o.guard.isNone) = true ∧
    ∀ L a w, Env a0 D a → I L a w → (∀ i, i < fin.length → L i = true) → (∀ (i : Nat) (S : TFactL R), (i, S) ∈ fin → S.T a w) → tailOps P Q (l.drop fin.length) a w
theorem Z5s {id : Nat} {l : List Oper} {w : World} (R : (Nat → Bool) → World → World → Prop) (I : (Nat → Bool) → Act → World → Prop) (A : List (List Nat)) (D : List Tmp) (hrr : ∀ l w, R l w w) (hw0 : I (fun _ => false) a0 w.drew) (hf : P.follows .mixedOrders = true)
    (h : BuildM P R l.toArray I a0 D A (FinM P l I a0 D A Q) 0 l []) : (Code.region id l.toArray true).wp P Q a0 w := by
  obtain ⟨fin, ⟨hok, hG⟩, -, hw, hxf, -, hstep⟩ := h.use rfl (fun _ _ h => by cases h) (fun _ _ h => by simp [factsL] at h)
  have hlen := Z0w fin
  rw [Bool.and_eq_true, Bool.and_eq_true] at hok
  refine Z3t (I := I) (factsL fin) hxf A D hf (by rw [hlen]; exact hok.1.1) (by rw [hlen]; exact hok.1.2) hw0 (fun k o S h1 h2 L a w hE hR hl hA hF => by
    have := hstep k o S h1 (by simpa using h2) L a w hE hR (by simpa using hl) (by simpa using hA) (by simpa using hF)
    simpa using this) hrr (fun L a w hE hR hA hF => ?_)
  rw [hlen] at hA ⊢
  have := Z4v l (l.drop fin.length) fin.length rfl hok.2 a w (hG L a w hE hR hA (fun i S hm => hF i S (hw i S hm)))
  simpa using this


end

abbrev RT0 : (Nat → Bool) → World → World → Prop := fun _ _ _ => True
def csA : Value → Array Value
  | .agg cs => cs
  | v => #[v]
/-- Three operations that count: the call, the block's making, its filling. -/
structure Spots where
  ic : Nat
  il : Nat
  is : Nat
  s : Tmp
  d : Tmp
  T : TypeId
  zs : Array Value
  cs : Value → Array Value
def IA (S : Spots) (anc : List Nat) (Φ : Value → List Thing → Prop) (H : Nat) (A0 : World) (L0 : List Thing) : (Nat → Bool) → Act → World → Prop := fun l a w =>
  ∃ L, (l S.ic = false → L = L0) ∧ (l S.ic = true → (∀ i ∈ anc, l i = true) ∧ Φ (a.eval (.tmp S.d)) L) ∧ (l S.is = true → l S.ic = true ∧ l S.il = true) ∧
    (l S.il = false → OwnT H A0 L w) ∧ (l S.il = true → ∃ g, a.eval (.tmp S.s) = .pointer (some ⟨g, 0, none⟩) ∧ OwnT H A0 (tBlk g S.T (if l S.is = true then S.cs (a.eval (.tmp S.d)) else S.zs) :: L) w)
def triv (k : Nat) : TFactL RT0 := ⟨k, [], fun _ _ => True, fun _ _ _ _ h => h, fun _ _ _ _ _ _ h => h⟩
section
variable {P : Program} {Q : Exit → Act → World → Prop} {a a0 : Act} {w w' w0 : World} {S : Spots} {Φ : Value → List Thing → Prop} {H : Nat} {A0 : World} {L0 : List Thing} {anc : List Nat} {l : Nat → Bool}
  {ops : Array Oper} {D : List Tmp} {A : List (List Nat)} {G : List (Nat × TFactL RT0) → Prop} {k : Nat} {o : Oper} {os : List Oper} {done : List (Nat × TFactL RT0)}
theorem Z1j {i : Nat} (h : Nat.beq k i = false) : Go.Proofs.YtakkhglbdljfiaaGreatDoor.upd l k i = l i := by
  have hne : ¬ i = k := fun e => Nat.ne_of_beq_eq_false h e.symm
  simp [Go.Proofs.YtakkhglbdljfiaaGreatDoor.upd, hne]
theorem Z5p {m n : Nat} (h : Nat.beq m n = false) : Nat.beq n m = false := by
  cases e : Nat.beq n m with
  | false => rfl
  | true => rw [Nat.eq_of_beq_eq_true e, Nat.beq_refl] at h; cases h
theorem upd_at : Go.Proofs.YtakkhglbdljfiaaGreatDoor.upd l k k = true := by simp [Go.Proofs.YtakkhglbdljfiaaGreatDoor.upd]
theorem Z36 {i : Nat} (h : l i = true) : Go.Proofs.YtakkhglbdljfiaaGreatDoor.upd l k i = true := by
  unfold Go.Proofs.YtakkhglbdljfiaaGreatDoor.upd
  split
  · rfl
  · exact h
theorem ic_false (h : l S.ic = true → ∀ i ∈ anc, l i = true) (hk : anc.contains k = true) (hl : l k = false) : l S.ic = false := by
  cases e : l S.ic with
  | false => rfl
  | true =>
    have := h e k (by simpa using hk)
    rw [hl] at this
    cases this
theorem IA.pre (h : IA S anc Φ H A0 L0 l a w) (hk : anc.contains k = true) (hl : l k = false) : OwnT H A0 L0 w := by
  obtain ⟨L, h1, h2, h3, h4, h5⟩ := h
  obtain rfl := h1 (ic_false (fun e => (h2 e).1) hk hl)
  cases e : l S.il with
  | false => exact h4 e
  | true =>
    obtain ⟨g, _, h⟩ := h5 e
    exact h.tail
theorem IA.val (h : IA S anc Φ H A0 L0 l a w) (hk : l S.ic = true) : ∃ L, Φ (a.eval (.tmp S.d)) L := by
  obtain ⟨L, h1, h2, h3, h4, h5⟩ := h
  exact ⟨L, (h2 hk).2⟩
theorem IA.end_ (h : IA S anc Φ H A0 L0 l a w) (h1 : l S.ic = true) (h2 : l S.il = true) (h3 : l S.is = true) : ∃ g L, a.eval (.tmp S.s) = .pointer (some ⟨g, 0, none⟩) ∧ Φ (a.eval (.tmp S.d)) L ∧ OwnT H A0 (tBlk g S.T (S.cs (a.eval (.tmp S.d))) :: L) w := by
  obtain ⟨L, _, k2, _, _, k5⟩ := h
  obtain ⟨g, e, h⟩ := k5 h2
  rw [if_pos h3] at h
  exact ⟨g, L, e, (k2 h1).2, h⟩
theorem IA.keep (h : IA S anc Φ H A0 L0 l a w) {d : Tmp} (v : Value) (h1 : (Nat.beq S.s d || Nat.beq S.d d || Nat.beq k S.ic || Nat.beq k S.il || Nat.beq k S.is) = false) : IA S anc Φ H A0 L0 (Go.Proofs.YtakkhglbdljfiaaGreatDoor.upd l k) (a.put (some d) v) w := by
  simp only [Bool.or_eq_false_iff] at h1
  obtain ⟨⟨⟨⟨n1, n2⟩, n3⟩, n4⟩, n5⟩ := h1
  have e1 : (a.put (some d) v).eval (.tmp S.s) = a.eval (.tmp S.s) := Z0q n1 v
  have e2 : (a.put (some d) v).eval (.tmp S.d) = a.eval (.tmp S.d) := Z0q n2 v
  obtain ⟨L, k1, k2, k3, k4, k5⟩ := h
  refine ⟨L, ?_, ?_, ?_, ?_, ?_⟩
  · rw [Z1j n3]; exact k1
  · rw [Z1j n3, e2]; exact fun h => ⟨fun i hi => Z36 ((k2 h).1 i hi), (k2 h).2⟩
  · rw [Z1j n3, Z1j n4, Z1j n5]; exact k3
  · rw [Z1j n4]; exact k4
  · rw [Z1j n4, Z1j n5, e1, e2]; exact k5
theorem BuildA.det (d : Tmp) {v : Value} (h1 : (Nat.beq S.s d || Nat.beq S.d d || Nat.beq k S.ic || Nat.beq k S.il || Nat.beq k S.is) = false) (hd : o.dst = some d) (hn : Nat.blt d a0.tmps.size = true) (hg : o.guard = none)
    (h : ∀ l a w, Env a0 D a → IA S anc Φ H A0 L0 l a w → l k = false → (∀ i ∈ A.getD k [], l i = true) → (∀ (i : Nat) (S' : TFactL RT0), i ∈ A.getD k [] → (i, S') ∈ done → S'.T a w) → (execOp a.eval o).run P w = .ok (.value v) w)
    (hr : BuildM P RT0 ops (IA S anc Φ H A0 L0) a0 D A G (k + 1) os ((k, detL k d v) :: done)) : BuildM P RT0 ops (IA S anc Φ H A0 L0) a0 D A G k (o :: os) done :=
  .step _ rfl (fun l a w hE hR hl hA hF => .inl ⟨Z0e hg, by
    unfold YieldsR
    rw [h l a w hE hR hl hA hF]
    refine ⟨trivial, trivial, ?_, ?_⟩
    · rw [hd]; exact Z0j (by rw [hE.size]; exact Nat.le_of_ble_eq_true hn)
    · rw [hd]; exact hR.keep v h1⟩) hr
theorem BuildA.rel (d s' : Tmp) (g : Value → Value) (hds : Nat.beq s' d = false) (h1 : (Nat.beq S.s d || Nat.beq S.d d || Nat.beq k S.ic || Nat.beq k S.il || Nat.beq k S.is) = false) (hd : o.dst = some d) (hn : Nat.blt d a0.tmps.size = true) (hg : o.guard = none)
    (h : ∀ l a w, Env a0 D a → IA S anc Φ H A0 L0 l a w → (∀ i ∈ A.getD k [], l i = true) → (∀ (i : Nat) (S' : TFactL RT0), i ∈ A.getD k [] → (i, S') ∈ done → S'.T a w) → (execOp a.eval o).run P w = .ok (.value (g (a.eval (.tmp s')))) w)
    (hr : BuildM P RT0 ops (IA S anc Φ H A0 L0) a0 D A G (k + 1) os ((k, relL k d s' g) :: done)) : BuildM P RT0 ops (IA S anc Φ H A0 L0) a0 D A G k (o :: os) done :=
  .step _ rfl (fun l a w hE hR hl hA hF => .inl ⟨Z0e hg, by
    unfold YieldsR
    rw [h l a w hE hR hA hF]
    refine ⟨trivial, trivial, ?_, ?_⟩
    · rw [hd]
      show (a.put (some d) _).eval (.tmp d) = g ((a.put (some d) _).eval (.tmp s'))
      rw [Z0j (by rw [hE.size]; exact Nat.le_of_ble_eq_true hn), Z0q hds]
    · rw [hd]; exact hR.keep _ h1⟩) hr
theorem BuildA.alloc (h1 : (Nat.beq k S.il && !Nat.beq S.s S.d && !Nat.beq S.il S.ic && !Nat.beq S.il S.is) = true) (hd : o.dst = some S.s) (hn : Nat.blt S.s a0.tmps.size = true) (hg : o.guard = none)
    (h : ∀ (a : Act) w, (execOp a.eval o).run P w = .ok (.value (.pointer (some ⟨w.heap.size, 0, none⟩))) (w.alloc (.cells S.zs S.T)))
    (hr : BuildM P RT0 ops (IA S anc Φ H A0 L0) a0 D A G (k + 1) os ((k, triv k) :: done)) : BuildM P RT0 ops (IA S anc Φ H A0 L0) a0 D A G k (o :: os) done :=
  .step _ rfl (fun l a w hE hR hl hA hF => .inl ⟨Z0e hg, by
    simp only [Bool.and_eq_true, Bool.not_eq_true'] at h1
    obtain ⟨⟨⟨n1, n2⟩, n3⟩, n4⟩ := h1
    obtain rfl := Nat.eq_of_beq_eq_true n1
    unfold YieldsR
    rw [h a w]
    refine ⟨trivial, trivial, trivial, ?_⟩
    have e1 : (a.put o.dst (.pointer (some ⟨w.heap.size, 0, none⟩))).eval (.tmp S.s) = .pointer (some ⟨w.heap.size, 0, none⟩) := by rw [hd]; exact Z0j (by rw [hE.size]; exact Nat.le_of_ble_eq_true hn)
    have e2 : (a.put o.dst (.pointer (some ⟨w.heap.size, 0, none⟩))).eval (.tmp S.d) = a.eval (.tmp S.d) := by rw [hd]; exact Z0q (Z5p n2) _
    obtain ⟨L, k1, k2, k3, k4, k5⟩ := hR
    have hs : l S.is = false := by
      cases e : l S.is with
      | false => rfl
      | true => rw [(k3 e).2] at hl; cases hl
    refine ⟨L, ?_, ?_, ?_, ?_, ?_⟩
    · rw [Z1j n3]; exact k1
    · rw [Z1j n3, e2]; exact fun h => ⟨fun i hi => Z36 ((k2 h).1 i hi), (k2 h).2⟩
    · rw [Z1j n4, hs]; exact fun h => by cases h
    · rw [upd_at]; exact fun h => by cases h
    · rw [Z1j n4, hs, e1]
      exact fun _ => ⟨_, rfl, (k4 hl).new S.T S.zs⟩⟩) hr
theorem BuildA.call (h1 : (Nat.beq k S.ic && !Nat.beq S.s S.d && !Nat.beq S.ic S.il && !Nat.beq S.ic S.is && (anc.all fun i => (A.getD k []).contains i)) = true) (hd : o.dst = some S.d) (hn : Nat.blt S.d a0.tmps.size = true) (hg : o.guard = none)
    (h : ∀ (l : Nat → Bool) a w, Env a0 D a → OwnT H A0 L0 w → (∀ i ∈ A.getD k [], l i = true) → (∀ (i : Nat) (S' : TFactL RT0), i ∈ A.getD k [] → (i, S') ∈ done → S'.T a w) →
      ∃ f args, (execOp a.eval o).run P w = .ok (.enter f args) w ∧ ∀ X, OwnT H A0 (X ++ L0) w → Calls P f args w fun e w' => ∃ v L, e = .returned v ∧ Φ v L ∧ OwnT H A0 (X ++ L) w')
    (hr : BuildM P RT0 ops (IA S anc Φ H A0 L0) a0 D A G (k + 1) os ((k, triv k) :: done)) : BuildM P RT0 ops (IA S anc Φ H A0 L0) a0 D A G k (o :: os) done :=
  .step _ rfl (fun l a w hE hR hl hA hF => .inl ⟨Z0e hg, by
    simp only [Bool.and_eq_true, Bool.not_eq_true', List.all_eq_true] at h1
    obtain ⟨⟨⟨⟨n1, n2⟩, n3⟩, n4⟩, n5⟩ := h1
    obtain rfl := Nat.eq_of_beq_eq_true n1
    obtain ⟨L, k1, k2, k3, k4, k5⟩ := hR
    obtain rfl := k1 hl
    have hs : l S.is = false := by
      cases e : l S.is with
      | false => rfl
      | true => rw [(k3 e).1] at hl; cases hl
    have hanc : ∀ i ∈ anc, Go.Proofs.YtakkhglbdljfiaaGreatDoor.upd l S.ic i = true := fun i hi => Z36 (hA i (by simpa using n5 i hi))
    have e1 : ∀ v, (a.put o.dst v).eval (.tmp S.s) = a.eval (.tmp S.s) := fun v => by rw [hd]; exact Z0q n2 v
    have e2 : ∀ v, (a.put o.dst v).eval (.tmp S.d) = v := fun v => by rw [hd]; exact Z0j (by rw [hE.size]; exact Nat.le_of_ble_eq_true hn)
    have hO : OwnT H A0 L w := by
      cases e : l S.il with
      | false => exact k4 e
      | true => obtain ⟨g, _, h⟩ := k5 e; exact h.tail
    obtain ⟨f, args, hrun, hc⟩ := h l a w hE hO hA hF
    unfold YieldsR
    rw [hrun]
    cases hil : l S.il with
    | false =>
      refine (hc [] (k4 hil)).mono ?_
      rintro e w' ⟨v, L', rfl, hΦ, hO'⟩
      refine ⟨v, rfl, trivial, trivial, trivial, L', ?_, ?_, ?_, ?_, ?_⟩
      · rw [upd_at]; exact fun h => by cases h
      · rw [e2]; exact fun _ => ⟨hanc, hΦ⟩
      · rw [Z1j n4, hs]; exact fun h => by cases h
      · exact fun _ => hO'
      · rw [Z1j n3, hil]; exact fun h => by cases h
    | true =>
      obtain ⟨g, eg, hg⟩ := k5 hil
      rw [hs] at hg
      refine (hc [_] hg).mono ?_
      rintro e w' ⟨v, L', rfl, hΦ, hO'⟩
      refine ⟨v, rfl, trivial, trivial, trivial, L', ?_, ?_, ?_, ?_, ?_⟩
      · rw [upd_at]; exact fun h => by cases h
      · rw [e2]; exact fun _ => ⟨hanc, hΦ⟩
      · rw [Z1j n4, hs]; exact fun h => by cases h
      · rw [Z1j n3, hil]; exact fun h => by cases h
      · rw [Z1j n4, hs, e1]
        exact fun _ => ⟨g, eg, hO'⟩⟩) hr
theorem BuildA.store (h1 : (Nat.beq k S.is && !Nat.beq S.is S.il && !Nat.beq S.is S.ic && (A.getD k []).contains S.ic && (A.getD k []).contains S.il) = true) (hd : o.dst = none) (hg : o.guard = none)
    (h : ∀ (l : Nat → Bool) a w g L, Env a0 D a → (∀ i ∈ A.getD k [], l i = true) → (∀ (i : Nat) (S' : TFactL RT0), i ∈ A.getD k [] → (i, S') ∈ done → S'.T a w) → a.eval (.tmp S.s) = .pointer (some ⟨g, 0, none⟩) → Φ (a.eval (.tmp S.d)) L → OwnT H A0 (tBlk g S.T S.zs :: L) w →
      ∃ w', (execOp a.eval o).run P w = .ok .skip w' ∧ OwnT H A0 (tBlk g S.T (S.cs (a.eval (.tmp S.d))) :: L) w')
    (hr : BuildM P RT0 ops (IA S anc Φ H A0 L0) a0 D A G (k + 1) os ((k, triv k) :: done)) : BuildM P RT0 ops (IA S anc Φ H A0 L0) a0 D A G k (o :: os) done :=
  .step _ rfl (fun l a w hE hR hl hA hF => .inl ⟨Z0e hg, by
    simp only [Bool.and_eq_true, Bool.not_eq_true'] at h1
    obtain ⟨⟨⟨⟨n1, n2⟩, n3⟩, n4⟩, n5⟩ := h1
    obtain rfl := Nat.eq_of_beq_eq_true n1
    have hic : l S.ic = true := hA _ (by simpa using n4)
    have hil : l S.il = true := hA _ (by simpa using n5)
    obtain ⟨L, k1, k2, k3, k4, k5⟩ := hR
    obtain ⟨g, eg, hO⟩ := k5 hil
    rw [hl] at hO
    obtain ⟨w', hrun, hO'⟩ := h l a w g L hE hA hF eg (k2 hic).2 hO
    unfold YieldsR
    rw [hrun]
    refine ⟨trivial, trivial, trivial, L, ?_, ?_, ?_, ?_, ?_⟩
    · rw [Z1j n3, hic]; exact fun h => by cases h
    · rw [hd]; exact fun _ => ⟨fun i hi => Z36 ((k2 hic).1 i hi), (k2 hic).2⟩
    · rw [Z1j n3, Z1j n2]; exact fun _ => ⟨hic, hil⟩
    · rw [Z1j n2, hil]; exact fun h => by cases h
    · rw [upd_at, hd]; exact fun _ => ⟨g, eg, hO'⟩⟩) hr
theorem wp_midA {id : Nat} {l : List Oper} (S : Spots) (Φ : Value → List Thing → Prop) (A : List (List Nat)) (D : List Tmp) (O : OwnT H A0 L0 w) (hf : P.follows .mixedOrders = true)
    (h : BuildM P RT0 l.toArray (IA S (A.getD S.ic []) Φ H A0 L0) a0 D A (FinM P l (IA S (A.getD S.ic []) Φ H A0 L0) a0 D A Q) 0 l []) : (Code.region id l.toArray true).wp P Q a0 w :=
  Z5s RT0 _ A D (fun _ _ => trivial) ⟨L0, fun _ => rfl, fun h => by (cases h), fun h => by (cases h), fun _ => O.drew, fun h => by (cases h)⟩ hf h
end
end Go.Proofs.YtakkhglbdljfiaaGreatDoor
