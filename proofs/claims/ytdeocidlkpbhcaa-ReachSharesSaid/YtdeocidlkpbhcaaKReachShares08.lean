/- Strings as lists of bytes, and what operations on them yield; rows, maps, writers at an operation. No function of the program in sight. -/
import Derived.Test.YtdeocidlkpbhcaaKReachShares07
import Derived.Test.YtdeocidlkpbhcaaKReachShares06
namespace Go.Proofs.Ytdeocidlkpbhcaa
set_option linter.unusedVariables false
set_option linter.unusedSimpArgs false
open Go.RowKit Go.Maps

section
variable {P : Program} {w w' : World} {o : Oper} {ρ : Operand → Value} {t u : TypeId} {x y : Operand} {l m : List UInt8}
end
section
variable {P : Program} {w : World} {o : Oper} {ρ : Operand → Value} {t u : TypeId} {x y : Operand}
end
section
variable {P : Program} {w : World} {o : Oper} {ρ : Operand → Value} {t : TypeId} {x y : Operand} {a b : Int}
theorem x_max (ho : o.op = .call { callee := .builtin .max, args := #[x, y], argTypes := #[t, t] }) (hx : ρ x = .int .i64 a) (hy : ρ y = .int .i64 b) : (execOp ρ o).run P w = .ok (.value (.int .i64 (max a b))) w := by
  unfold execOp
  simp only [ho, resolve, invoke, builtin, Sem.run_bind, Sem.run_pure, Result.andThen_ok, List.map_toArray, List.map_cons, List.map_nil, hx, hy]
  have e : max a b = if b > a then b else a := by split <;> omega
  rw [e]
  simp [Builtin.max_, Builtin.max2]
theorem x_min (ho : o.op = .call { callee := .builtin .min, args := #[x, y], argTypes := #[t, t] }) (hx : ρ x = .int .i64 a) (hy : ρ y = .int .i64 b) : (execOp ρ o).run P w = .ok (.value (.int .i64 (min a b))) w := by
  unfold execOp
  simp only [ho, resolve, invoke, builtin, Sem.run_bind, Sem.run_pure, Result.andThen_ok, List.map_toArray, List.map_cons, List.map_nil, hx, hy]
  have e : min a b = if b < a then b else a := by split <;> omega
  rw [e]
  simp [Builtin.min_, Builtin.min2]
end
/-! Maps. -/
section
variable {w : World} {b n : Nat} {m : Int → Option Value} {o : Oper} {ρ : Operand → Value} {t e : TypeId} {mo x : Operand} {z : Value} {c : Int}
theorem Z57 (h : VM w b n m) (ho : o.op = .lookup t mo x false) (ht : Try.prog.underlying t = some (.map 3 e)) (hz : (zeroValue e).run Try.prog w = .ok z w) (hm : ρ mo = .map (some b)) (hx : ρ x = .int .i64 c) (hc : wfV c) : (execOp ρ o).run Try.prog w = .ok (.value ((m c).getD z)) w := by
  simp [execOp, ho, hm, hx, h.look ht hz hc]
end
/-! A value that is put: on with a new frame. -/
section
variable {P : Program} {Q : Exit → Act → World → Prop} {a a0 : Act} {w' : World} {n : Nat} {D : List Tmp} {ops : Array Oper} {rest : List Oper} {v : Value}
theorem Z75 (d : Tmp) (hE : Env a0 D a) (k : Fr n a0) (hn : Nat.blt d n = true) (hD : D.contains d = true)
    (hk : ∀ a', Env a0 D a' → a'.eval (.tmp d) = v → (∀ t, Nat.beq t d = false → a'.eval (.tmp t) = a.eval (.tmp t)) → wpList P ops Q rest a' w') : wpList P ops Q rest (a.put (some d) v) w' :=
  hk _ (hE.put hD v) (Z0h (by rw [hE.size, k.size]; exact Nat.le_of_ble_eq_true hn)) (fun t ht => Z0q ht v)
end
section
variable {P : Program} {Q : Exit → Act → World → Prop} {a : Act} {w w' : World} {ops : Array Oper} {rest : List Oper} {o : Oper} {v : Value}
theorem Z4s (hd : o.dst = none) (hg : o.guard = none) (h : (execOp a.eval o).run P w = .ok (.value v) w') (hk : wpList P ops Q rest a w') : wpList P ops Q (o :: rest) a w := by
  refine wpList_plain hg fun K hK => Z1v h (hK _ _ ?_)
  rw [hd]
  exact hk
end
section
variable {P : Program} {Q : Exit → Act → World → Prop} {a a0 : Act} {w : World} {n : Nat} {D : List Tmp} {ops : Array Oper} {rest : List Oper} {o : Oper}
/-- A new map. -/
theorem Z6f {H : Nat} {A : World} {L : List Thing} (O : OwnT H A L w) (d : Tmp) (hE : Env a0 D a) (k : Fr n a0) (hd : o.dst = some d) (hn : Nat.blt d n = true) (hD : D.contains d = true) (hg : o.guard = none)
    (h : (execOp a.eval o).run P w = .ok (.value (.map (some w.heap.size))) (w.alloc (.map #[] 0)))
    (hk : ∀ g a' w', OwnT H A (tMap g 0 (fun _ => none) :: L) w' → Env a0 D a' → a'.eval (.tmp d) = .map (some g) → (∀ t, Nat.beq t d = false → a'.eval (.tmp t) = a.eval (.tmp t)) → wpList P ops Q rest a' w') : wpList P ops Q (o :: rest) a w :=
  Z22 d hE k hd hn hD hg h (fun a' h1 h2 h3 => hk _ a' _ (O.cons (Ext.alloc w _) (tMap w.heap.size 0 (fun _ => none)) (VM.made w) (fun i hi => by simp [tMap] at hi; omega)) h1 h2 h3)
end
theorem Z87 {P : Program} {Q : Exit → Act → World → Prop} {a : Act} {w w' : World} {o : Oper} (hd : o.dst = none) (h : (execOp a.eval o).run P w = .ok .skip w') (hk : Q .normal a w') : o.wp P a w (fun a w => Q .normal a w) Q := by
  refine Z3b h ?_
  rw [hd]
  exact hk
/-! Rows of single cells. -/
section
variable {H : Nat} {A w w' : World} {L : List Thing} {T : TypeId} {g n cap : Nat} {xs : List Value}
end
end Go.Proofs.Ytdeocidlkpbhcaa

/- A region that draws its order and holds a call that writes and hands back something new: the relation that keeps facts goes by what is done. No function of the program in sight. -/
namespace Go.Proofs.Ytdeocidlkpbhcaa
set_option linter.unusedVariables false
set_option linter.unusedSimpArgs false
open Go.RowKit

/-- What operation 'idx' leaves: a fact of the slots L and of the world, kept by every step behind it. -/
structure TFactL (R : (Nat → Bool) → World → World → Prop) where
  idx : Nat
  L : List Tmp
  T : Act → World → Prop
  loc : ∀ a a' w, (∀ t ∈ L, a.tmps[t]? = a'.tmps[t]?) → T a w → T a' w
  mono : ∀ l a w w', l idx = true → R l w w' → T a w → T a w'
section
variable {P : Program} {R : (Nat → Bool) → World → World → Prop} {ops : Array Oper} {I : (Nat → Bool) → World → Prop} {a0 : Act} {D : List Tmp} {A : List (List Nat)} {Fs : List (TFactL R)} {m : Nat} {Q : Exit → Act → World → Prop}
abbrev factsL (done : List (Nat × TFactL R)) : List (TFactL R) := done.reverse.map Prod.snd
theorem Z19 (x : Nat × TFactL R) (done : List (Nat × TFactL R)) : factsL (x :: done) = factsL done ++ [x.2] := by simp [factsL]
theorem Z0u (done : List (Nat × TFactL R)) : (factsL done).length = done.length := by simp [factsL]
def plain (Fs : List (TFactL R)) : List (TFact (fun _ _ : World => False)) := Fs.map fun S => ⟨S.L, S.T, S.loc, fun _ _ _ h _ => h.elim⟩
theorem Z7z (Fs : List (TFactL R)) : (plain Fs).map TFact.L = Fs.map TFactL.L := by simp [plain, Function.comp_def]
theorem Z6h {i : Nat} {S : TFactL R} (h : Fs[i]? = some S) : ∃ S', (plain Fs)[i]? = some S' ∧ S'.L = S.L := ⟨_, by rw [plain, List.getElem?_map, h]; rfl, rfl⟩
structure LInv (ops : Array Oper) (I : (Nat → Bool) → World → Prop) (a0 : Act) (D : List Tmp) (Fs : List (TFactL R)) (m : Nat) (listed : Array Bool) (a : Act) (w : World) : Prop where
  sz : listed.size = ops.size
  env : Env a0 D a
  inv : I (fun i => listed.getD i false) w
  closed : ∀ j o, listed.getD j false = true → ops[j]? = some o → ∀ e ∈ o.after, Region.binds .any e = true → listed.getD e.on false = true
  typed : ∀ i S, listed.getD i false = true → Fs[i]? = some S → S.T a w
  un : ∀ i, m ≤ i → listed.getD i false = false

theorem Z62 (hok0 : okB ops D A (Fs.map TFactL.L) m = true) (hidx : ∀ (i : Nat) (S : TFactL R), Fs[i]? = some S → S.idx = i) (hlen : Fs.length = m) (hms : m ≤ ops.size) (hm : ∀ i, m ≤ i → i < ops.size → ∀ j, j < i → j ∈ A.getD i [])
    (hstep : ∀ (k : Nat) (o : Oper) (S : TFactL R), ops[k]? = some o → Fs[k]? = some S → ∀ l a w, Env a0 D a → I l w → l k = false → (∀ i ∈ A.getD k [], l i = true) → (∀ (i : Nat) (S' : TFactL R), i ∈ A.getD k [] → Fs[i]? = some S' → S'.T a w) → opR P ops (R l) (I (upd l k)) o S.T a w)
    (hrr : ∀ l w, R l w w)
    (hend : ∀ l a w, Env a0 D a → I l w → (∀ i, i < m → l i = true) → (∀ (i : Nat) (S : TFactL R), Fs[i]? = some S → S.T a w) → tailWp P ops Q (ops.size - m) m a w) :
    ∀ (fuel : Nat) (listed : Array Bool) (a : Act) (w : World), LInv ops I a0 D Fs m listed a w → listed.toList.count false = fuel → wpAny P .any ops Q fuel listed a w := by
  have hok : okB ops D A ((plain Fs).map TFact.L) m = true := by rw [Z7z]; exact hok0
  intro fuel
  induction fuel with
  | zero =>
    intro listed a w hI h0
    obtain ⟨hr, hx⟩ := Z2s (ops := ops) listed hI.sz h0
    have hmm : m = ops.size := by
      by_cases h : m < ops.size
      · have := hx m h
        rw [hI.un m (Nat.le_refl _)] at this
        cases this
      · omega
    refine ⟨hr, ?_⟩
    have := hend _ a w hI.env hI.inv (fun i hi => hx i (by omega)) (fun i S hS => hI.typed i S (hx i (by have := (List.getElem?_eq_some_iff.1 hS).1; omega)) hS)
    rwa [show ops.size - m = 0 by omega] at this
  | succ fuel ih =>
    intro listed a w hI hcnt
    by_cases hall : ∀ j, j < m → listed.getD j false = true
    · exact Z4r hok hm (fuel + 1) m listed a w (Nat.le_refl _) hms hI.sz hall hI.un hI.closed hcnt (hend _ a w hI.env hI.inv hall (fun i S hS => hI.typed i S (hall i (by have := (List.getElem?_eq_some_iff.1 hS).1; omega)) hS))
    refine ⟨fun hr => (Z2p hok listed hI.sz fuel hcnt hr).elim, fun i hi => ?_⟩
    obtain ⟨hun, o, ho, hpre⟩ := mem_ready.1 hi
    have hio : i < ops.size := (Array.getElem?_eq_some_iff.1 ho).1
    have his : i < listed.size := by have := hI.sz; omega
    have hanc := Z1f hok hI.closed hI.sz i o ho hpre
    have him : i < m := by
      by_cases h : i < m
      · exact h
      · exact (hall (fun j hj => hanc j (hm i (by omega) hio j (by omega)))).elim
    obtain ⟨S, hS⟩ : ∃ S, Fs[i]? = some S := ⟨_, List.getElem?_eq_getElem (by omega)⟩
    have hst := hstep i o S ho hS _ a w hI.env hI.inv (by rw [Z0r his false true]; exact hun) hanc (fun j S' hj hS' => hI.typed j S' (hanc j hj) hS')
    have hnext : ∀ v w', R (fun j => listed.getD j false) w w' → I (upd (fun j => listed.getD j false) i) w' → S.T (a.put o.dst v) w' → LInv ops I a0 D Fs m (listed.setIfInBounds i true) (a.put o.dst v) w' := by
      intro v w' hRw hR hT
      obtain ⟨_, _, h3⟩ := Z48 hok ho
      have h3 := h3 him
      refine ⟨by simpa using hI.sz, ⟨?_, ?_, ?_⟩, by rw [Z3c his]; exact hR, Z2r his ho hpre hI.closed, ?_, ?_⟩
      · rw [← hI.env.size]; cases hd : o.dst <;> simp [Act.put]
      · rw [← hI.env.defers]; cases hd : o.dst <;> simp [Act.put]
      · intro t ht
        rw [← hI.env.keep t ht]
        cases hd : o.dst with
        | none => simp [Act.put]
        | some d =>
          have := (h3 d hd).1
          have hne : d ≠ t := fun e => ht (e ▸ this)
          simp [Act.put, Array.getElem?_setIfInBounds_ne hne]
      · intro j S' hj hS'
        by_cases hji : i = j
        · subst hji
          rw [hS] at hS'
          cases hS'
          exact hT
        · rw [getD_set_ne false hji] at hj
          have hold := S'.mono (fun j => listed.getD j false) _ w w' (by rw [hidx j S' hS']; exact hj) hRw (hI.typed j S' hj hS')
          refine S'.loc _ _ _ (fun t ht => ?_) hold
          cases hd : o.dst with
          | none => simp [Act.put]
          | some d =>
            have hja : i ∉ A.getD j [] := by
              intro hmem
              obtain ⟨oj, hoj⟩ : ∃ oj, ops[j]? = some oj := ⟨_, Array.getElem?_eq_getElem (by have := (List.getElem?_eq_some_iff.1 hS').1; omega)⟩
              have := Z1f hok hI.closed hI.sz j oj hoj (hI.closed j oj hj hoj) i hmem
              rw [Z0r his false true, hun] at this
              cases this
            obtain ⟨S2, hS2, hSL⟩ := Z6h hS'
            have hne : d ≠ t := fun e => (h3 d hd).2 j S2 hS2 (fun e => hji e.symm) hja (by rw [hSL]; exact e ▸ ht)
            simp [Act.put, Array.getElem?_setIfInBounds_ne hne]
      · intro j hj
        have : i ≠ j := by omega
        rw [getD_set_ne false this]
        exact hI.un j hj
    have hk : ∀ v w', R (fun j => listed.getD j false) w w' → I (upd (fun j => listed.getD j false) i) w' → S.T (a.put o.dst v) w' → wpAny P .any ops Q fuel (listed.setIfInBounds i true) (a.put o.dst v) w' :=
      fun v w' hRw hR hT => ih _ _ _ (hnext v w' hRw hR hT) (count_set his hun _ hcnt)
    unfold wpOp
    simp only [ho]
    rcases hst with ⟨hw, hy⟩ | ⟨hw, hJ, hT⟩
    · rw [if_pos hw]
      refine .inl ?_
      unfold YieldsR at hy
      unfold Oper.wp
      generalize (execOp a.eval o).run P w = r at hy ⊢
      cases r with
      | halt x w' => exact hy.elim
      | ok n w' =>
        cases n <;> simp only [Oper.upon] at hy ⊢
        case value v => exact hk v w' hy.1 hy.2.1 hy.2.2
        case skip => exact hk undef w' hy.1 hy.2.1 hy.2.2
        case enter f args =>
          refine hy.mono fun e w'' ⟨v, he, hRw, hR, hT⟩ => ?_
          subst he
          exact hk v w'' hRw hR hT
    · rw [if_neg (by rw [hw]; exact Bool.false_ne_true)]
      exact hk undef w (hrr _ w) hJ hT

inductive BuildL (P : Program) (R : (Nat → Bool) → World → World → Prop) (ops : Array Oper) (I : (Nat → Bool) → World → Prop) (a0 : Act) (D : List Tmp) (A : List (List Nat)) (G : List (Nat × TFactL R) → Prop) : Nat → List Oper → List (Nat × TFactL R) → Prop
  | stop {k : Nat} {os : List Oper} {done : List (Nat × TFactL R)} (h : G done) : BuildL P R ops I a0 D A G k os done
  | step {k : Nat} {o : Oper} {os : List Oper} {done : List (Nat × TFactL R)} (S : TFactL R) (hx : S.idx = k) (h : ∀ l a w, Env a0 D a → I l w → l k = false → (∀ i ∈ A.getD k [], l i = true) → (∀ (i : Nat) (S' : TFactL R), i ∈ A.getD k [] → (i, S') ∈ done → S'.T a w) → opR P ops (R l) (I (upd l k)) o S.T a w)
      (hr : BuildL P R ops I a0 D A G (k + 1) os ((k, S) :: done)) : BuildL P R ops I a0 D A G k (o :: os) done

variable {G : List (Nat × TFactL R) → Prop} {k : Nat} {o : Oper} {os : List Oper} {done : List (Nat × TFactL R)} {d : Tmp} {v : Value}
theorem BuildL.use (hb : BuildL P R ops I a0 D A G k os done) (hk : k = done.length) (hwf : ∀ (i : Nat) (S : TFactL R), (i, S) ∈ done → (factsL done)[i]? = some S) (hxd : ∀ (i : Nat) (S : TFactL R), (factsL done)[i]? = some S → S.idx = i) : ∃ fin : List (Nat × TFactL R), G fin ∧ (∀ (i : Nat) (S : TFactL R), (factsL done)[i]? = some S → (factsL fin)[i]? = some S) ∧
    (∀ (i : Nat) (S : TFactL R), (i, S) ∈ fin → (factsL fin)[i]? = some S) ∧ (∀ (i : Nat) (S : TFactL R), (factsL fin)[i]? = some S → S.idx = i) ∧ done.length ≤ fin.length ∧
    ∀ (i : Nat) (o : Oper) (S : TFactL R), os[i]? = some o → (factsL fin)[k + i]? = some S → ∀ l a w, Env a0 D a → I l w → l (k + i) = false → (∀ j ∈ A.getD (k + i) [], l j = true) → (∀ (j : Nat) (S' : TFactL R), j ∈ A.getD (k + i) [] → (factsL fin)[j]? = some S' → S'.T a w) → opR P ops (R l) (I (upd l (k + i))) o S.T a w := by
  induction hb with
  | stop h =>
    rename_i k os done
    refine ⟨done, h, fun _ _ h => h, hwf, hxd, Nat.le_refl _, fun i o S _ hS => ?_⟩
    rw [List.getElem?_eq_none (by rw [Z0u]; omega)] at hS
    cases hS
  | step S hx h hr ih =>
    rename_i k o os done
    have hpre0 : ∀ (i : Nat) (S' : TFactL R), (factsL done)[i]? = some S' → (factsL ((k, S) :: done))[i]? = some S' := fun i S' hi => by
      have hlt := (List.getElem?_eq_some_iff.1 hi).1
      rw [Z19, List.getElem?_append_left hlt]; exact hi
    obtain ⟨fin, hG, h1, hw, hxf, h2, h4⟩ := ih (by simp [hk]) (fun i S' hm => by
      rcases List.mem_cons.1 hm with he | hm
      · cases he
        rw [Z19, hk, ← Z0u done]
        simp
      · exact hpre0 i S' (hwf i S' hm)) (fun i S' hi => by
      rw [Z19] at hi
      by_cases hlt : i < (factsL done).length
      · rw [List.getElem?_append_left hlt] at hi
        exact hxd i S' hi
      · have hle := (List.getElem?_eq_some_iff.1 hi).1
        rw [List.length_append] at hle
        have hle : i < (factsL done).length + 1 := hle
        have : i = (factsL done).length := by omega
        subst this
        rw [List.getElem?_append_right (Nat.le_refl _), Nat.sub_self] at hi
        simp at hi
        subst hi
        rw [hx, hk, Z0u])
    refine ⟨fin, hG, fun i S' hi => h1 i S' (hpre0 i S' hi), hw, hxf, by simp at h2; omega, ?_⟩
    intro i o' S' hi hS
    cases i with
    | zero =>
      simp at hi
      subst hi
      have : (factsL fin)[k + 0]? = some S := h1 k S (by rw [Z19, hk, ← Z0u done]; simp)
      rw [this] at hS
      cases hS
      intro l a w hE hR hl hA hF
      exact h l a w hE hR hl hA (fun j S' hj hd => hF j S' hj (h1 j S' (hpre0 j S' (hwf j S' hd))))
    | succ i =>
      have := h4 i o' S' (by simpa using hi) (by rwa [show k + 1 + i = k + (i + 1) by omega])
      intro l a w hE hR hl hA hF
      rw [show k + (i + 1) = k + 1 + i by omega] at hl hA ⊢
      exact this l a w hE hR hl hA (fun j S' hj hd => hF j S' (by rwa [show k + (i + 1) = k + 1 + i by omega]) hd)



/-- Each operation's fact, shown once, and the invariant kept. -/
theorem Z3a {id : Nat} {l : List Oper} {w : World} (Fs : List (TFactL R)) (hidx : ∀ (i : Nat) (S : TFactL R), Fs[i]? = some S → S.idx = i) (A : List (List Nat)) (D : List Tmp) (hf : P.follows .mixedOrders = true) (hok : okB l.toArray D A (Fs.map TFactL.L) Fs.length = true)
    (hm : (decide (Fs.length ≤ l.length) && (List.range l.length).all fun i => decide (i < Fs.length) || (List.range i).all fun j => (A.getD i []).contains j) = true)
    (hw0 : I (fun _ => false) w.drew)
    (hstep : ∀ (k : Nat) (o : Oper) (S : TFactL R), l[k]? = some o → Fs[k]? = some S → ∀ L a w, Env a0 D a → I L w → L k = false → (∀ i ∈ A.getD k [], L i = true) → (∀ (i : Nat) (S' : TFactL R), i ∈ A.getD k [] → Fs[i]? = some S' → S'.T a w) → opR P l.toArray (R L) (I (upd L k)) o S.T a w)
    (hrr : ∀ l w, R l w w)
    (hend : ∀ L a w, Env a0 D a → I L w → (∀ i, i < Fs.length → L i = true) → (∀ (i : Nat) (S : TFactL R), Fs[i]? = some S → S.T a w) → tailWp P l.toArray Q (l.length - Fs.length) Fs.length a w) :
    (Code.region id l.toArray true).wp P Q a0 w := by
  refine wp_region_any hf ?_
  simp only [Bool.and_eq_true, decide_eq_true_eq, List.all_eq_true, List.mem_range, Bool.or_eq_true, List.contains_iff_mem] at hm
  refine Z62 (a0 := a0) (I := I) (Fs := Fs) (A := A) (D := D) (m := Fs.length) hok hidx rfl (by simpa using hm.1) ?_ (by simpa using hstep) hrr (by simpa using hend) _ _ _ _ ?_ (by simp)
  · intro i h1 h2 j hj
    rcases hm.2 i (by simpa using h2) with h | h
    · omega
    · exact h j hj
  · refine ⟨by simp, ⟨rfl, rfl, fun _ _ => rfl⟩, ?_, ?_, ?_, ?_⟩
    · have e : (fun i => (Array.replicate l.toArray.size false).getD i false) = fun _ => false := funext fun i => Z13 _ _
      rw [e]
      exact hw0
    · intro j o hj
      rw [Z13] at hj
      cases hj
    · intro i S hi
      rw [Z13] at hi
      cases hi
    · intro i _
      exact Z13 _ _

def FinL (P : Program) (l : List Oper) (I : (Nat → Bool) → World → Prop) (a0 : Act) (D : List Tmp) (A : List (List Nat)) (Q : Exit → Act → World → Prop) (fin : List (Nat × TFactL R)) : Prop :=
  (okB l.toArray D A ((factsL fin).map TFactL.L) fin.length && (decide (fin.length ≤ l.length) && (List.range l.length).all fun i => decide (i < fin.length) || (List.range i).all fun j => (A.getD i []).contains j) && (l.drop fin.length).all fun o => o.guard.isNone) = true ∧
    ∀ L a w, Env a0 D a → I L w → (∀ i, i < fin.length → L i = true) → (∀ (i : Nat) (S : TFactL R), (i, S) ∈ fin → S.T a w) → tailOps P Q (l.drop fin.length) a w
theorem Z4k {id : Nat} {l : List Oper} {w : World} (R : (Nat → Bool) → World → World → Prop) (I : (Nat → Bool) → World → Prop) (A : List (List Nat)) (D : List Tmp) (hrr : ∀ l w, R l w w) (hw0 : I (fun _ => false) w.drew) (hf : P.follows .mixedOrders = true)
    (h : BuildL P R l.toArray I a0 D A (FinL P l I a0 D A Q) 0 l []) : (Code.region id l.toArray true).wp P Q a0 w := by
  obtain ⟨fin, ⟨hok, hG⟩, -, hw, hxf, -, hstep⟩ := h.use rfl (fun _ _ h => by cases h) (fun _ _ h => by simp [factsL] at h)
  have hlen := Z0u fin
  rw [Bool.and_eq_true, Bool.and_eq_true] at hok
  refine Z3a (I := I) (factsL fin) hxf A D hf (by rw [hlen]; exact hok.1.1) (by rw [hlen]; exact hok.1.2) hw0 (fun k o S h1 h2 L a w hE hR hl hA hF => by
    have := hstep k o S h1 (by simpa using h2) L a w hE hR (by simpa using hl) (by simpa using hA) (by simpa using hF)
    simpa using this) hrr (fun L a w hE hR hA hF => ?_)
  rw [hlen] at hA ⊢
  have := Z43 l (l.drop fin.length) fin.length rfl hok.2 a w (hG L a w hE hR hA (fun i S hm => hF i S (hw i S hm)))
  simpa using this

/-- The slot holds this value. -/
def detL (k : Nat) (d : Tmp) (v : Value) : TFactL R := ⟨k, [d], fun a _ => a.eval (.tmp d) = v, fun a a' _ h e => (Z1a (h d (by simp))).symm.trans e, fun _ _ _ _ _ _ e => e⟩
/-- The slot holds a value of which this holds, from then on. -/
def freshL (k : Nat) (d : Tmp) (φ : Value → World → Prop) (hφ : ∀ l v w w', l k = true → R l w w' → φ v w → φ v w') : TFactL R := ⟨k, [d], fun a w => φ (a.eval (.tmp d)) w, fun a a' w h e => by rw [← Z1a (h d (by simp))]; exact e, fun l a w w' hl hR e => hφ l _ _ _ hl hR e⟩
theorem BuildL.det (d : Tmp) {v : Value} (hrr : ∀ l w, R l w w) (hI : ∀ l w, I l w → I (upd l k) w) (hd : o.dst = some d) (hn : Nat.blt d a0.tmps.size = true) (hg : o.guard = none)
    (h : ∀ l a w, Env a0 D a → I l w → (∀ (i : Nat) (S' : TFactL R), i ∈ A.getD k [] → (i, S') ∈ done → S'.T a w) → (execOp a.eval o).run P w = .ok (.value v) w)
    (hr : BuildL P R ops I a0 D A G (k + 1) os ((k, detL k d v) :: done)) : BuildL P R ops I a0 D A G k (o :: os) done :=
  .step _ rfl (fun l a w hE hR _ _ hF => .inl ⟨Z0c hg, by
    unfold YieldsR
    rw [h l a w hE hR hF]
    exact ⟨hrr l w, hI l w hR, by rw [hd]; exact Z0h (by rw [hE.size]; exact Nat.le_of_ble_eq_true hn)⟩⟩) hr
theorem BuildL.call (d : Tmp) {v : Value} {f : FuncId} {args : Array Value} (hd : o.dst = some d) (hn : Nat.blt d a0.tmps.size = true) (hg : o.guard = none)
    (h : ∀ l a w, Env a0 D a → I l w → (∀ (i : Nat) (S' : TFactL R), i ∈ A.getD k [] → (i, S') ∈ done → S'.T a w) → (execOp a.eval o).run P w = .ok (.enter f args) w)
    (hc : ∀ l w, I l w → l k = false → (∀ i ∈ A.getD k [], l i = true) → Calls P f args w fun e w' => e = .returned v ∧ R l w w' ∧ I (upd l k) w')
    (hr : BuildL P R ops I a0 D A G (k + 1) os ((k, detL k d v) :: done)) : BuildL P R ops I a0 D A G k (o :: os) done :=
  .step _ rfl (fun l a w hE hR hl hA hF => .inl ⟨Z0c hg, by
    unfold YieldsR
    rw [h l a w hE hR hF]
    exact (hc l w hR hl hA).mono fun e w' ⟨he, hRw, hI⟩ => ⟨v, he, hRw, hI, by rw [hd]; exact Z0h (by rw [hE.size]; exact Nat.le_of_ble_eq_true hn)⟩⟩) hr
/-- One that makes something of its own. -/
theorem BuildL.new (d : Tmp) (φ : Value → World → Prop) (hφ : ∀ l v w w', l k = true → R l w w' → φ v w → φ v w') (hd : o.dst = some d) (hn : Nat.blt d a0.tmps.size = true) (hg : o.guard = none)
    (h : ∀ l a w, Env a0 D a → I l w → l k = false → (∀ i ∈ A.getD k [], l i = true) → (∀ (i : Nat) (S' : TFactL R), i ∈ A.getD k [] → (i, S') ∈ done → S'.T a w) → ∃ v w', (execOp a.eval o).run P w = .ok (.value v) w' ∧ R l w w' ∧ I (upd l k) w' ∧ φ v w')
    (hr : BuildL P R ops I a0 D A G (k + 1) os ((k, freshL k d φ hφ) :: done)) : BuildL P R ops I a0 D A G k (o :: os) done :=
  .step _ rfl (fun l a w hE hR hl hA hF => by
    obtain ⟨v, w', h1, h2, h3, h4⟩ := h l a w hE hR hl hA hF
    refine .inl ⟨Z0c hg, ?_⟩
    unfold YieldsR
    rw [h1]
    exact ⟨h2, h3, by rw [hd]; show φ ((a.put (some d) v).eval (.tmp d)) w'; rw [Z0h (by rw [hE.size]; exact Nat.le_of_ble_eq_true hn)]; exact h4⟩) hr
/-- A call that writes and hands back something new; its arguments may lean on new things. -/
theorem BuildL.callnew (d : Tmp) (φ : Value → World → Prop) (hφ : ∀ l v w w', l k = true → R l w w' → φ v w → φ v w') (hd : o.dst = some d) (hn : Nat.blt d a0.tmps.size = true) (hg : o.guard = none)
    (h : ∀ l a w, Env a0 D a → I l w → l k = false → (∀ i ∈ A.getD k [], l i = true) → (∀ (i : Nat) (S' : TFactL R), i ∈ A.getD k [] → (i, S') ∈ done → S'.T a w) →
      ∃ f args, (execOp a.eval o).run P w = .ok (.enter f args) w ∧ Calls P f args w fun e w' => ∃ v, e = .returned v ∧ R l w w' ∧ I (upd l k) w' ∧ φ v w')
    (hr : BuildL P R ops I a0 D A G (k + 1) os ((k, freshL k d φ hφ) :: done)) : BuildL P R ops I a0 D A G k (o :: os) done :=
  .step _ rfl (fun l a w hE hR hl hA hF => by
    obtain ⟨f, args, h1, hc⟩ := h l a w hE hR hl hA hF
    refine .inl ⟨Z0c hg, ?_⟩
    unfold YieldsR
    rw [h1]
    exact hc.mono fun e w' ⟨v, he, hRw, hI, hv⟩ => ⟨v, he, hRw, hI, by rw [hd]; show φ ((a.put (some d) v).eval (.tmp d)) w'; rw [Z0h (by rw [hE.size]; exact Nat.le_of_ble_eq_true hn)]; exact hv⟩) hr
end
end Go.Proofs.Ytdeocidlkpbhcaa
