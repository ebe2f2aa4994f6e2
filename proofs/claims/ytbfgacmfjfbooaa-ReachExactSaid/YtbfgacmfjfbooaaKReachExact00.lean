/- Words for memory: a block known whole; only one block (and what is new) has turned. Plain lemmas over worlds, no program in sight. -/
import Derived.Test.YtbfgacmfjfbooaaRows
import Derived.WalkKit
import Derived.WalkSpells
import Derived.WalkLawsBesides
import Derived.Lib.Hide
import Derived.Deep.QuietTactic
import Derived.BigQuiet
import Derived.Deep.DeepCutAuto
import Derived.Deep.LoopGhost
import Derived.Still
namespace Go.Proofs.Ytbfgacmfjfbooaa
set_option linter.unusedVariables false
set_option linter.unusedSimpArgs false
open Go.RowKit

/-- Block g is just the cells cs of type t, none frozen. -/
def Blk (w : World) (g : Nat) (t : TypeId) (cs : Array Value) : Prop := w.heap[g]? = some (.cells cs t (0, 0))

section
variable {w w' : World} {g : Nat} {t : TypeId} {cs : Array Value}
theorem Blk.lt (h : Blk w g t cs) : g < w.heap.size := by
  rcases Nat.lt_or_ge g w.heap.size with hlt | hge
  · exact hlt
  · unfold Blk at h; rw [Array.getElem?_eq_none hge] at h; cases h
theorem Blk.cell (h : Blk w g t cs) (i : Nat) : w.cell? ⟨g, i, none⟩ = cs[i]? := cell_of_row w g i cs t (0, 0) h
theorem Blk.frozen (h : Blk w g t cs) (i : Nat) : w.frozen? ⟨g, i, none⟩ = false := by
  unfold Blk at h
  simp [World.frozen?, h]
theorem Blk.new (w : World) (t : TypeId) (cs : Array Value) : Blk (w.alloc (.cells cs t)) w.heap.size t cs := heap_alloc_new w _
theorem Blk.drew (h : Blk w g t cs) : Blk w.drew g t cs := h
theorem Blk.alloc (h : Blk w g t cs) (o : Obj) : Blk (w.alloc o) g t cs := (Below.heap_alloc w o g h.lt).trans h
theorem Blk.set_ (h : Blk w g t cs) (i : Nat) (u : Value) : Blk (w.setCell ⟨g, i, none⟩ u) g t (cs.setIfInBounds i u) := by
  unfold Blk at h ⊢
  simp [World.setCell, Array.getElem?_modify, h]
theorem Blk.far (h : Blk w g t cs) {p : Addr} (hp : g ≠ p.block) (u : Value) : Blk (w.setCell p u) g t cs := (Below.heap_setCell w p u g hp).trans h
theorem Blk.below {B : Nat} (h : Blk w g t cs) (hb : Below B w w') (hg : g < B) : Blk w' g t cs := (hb.block g hg).trans h
theorem Blk.grown {row : Option Nat} (h : Blk w g t cs) (hb : w.grownBy w' row) (hg : some g ≠ row) : Blk w' g t cs := (hb.block g h.lt hg).trans h
end

/-- Behind a deed on block g: it holds cs; of what was there nothing else has turned. -/
structure Upd (w : World) (g : Nat) (t : TypeId) (cs : Array Value) (w' : World) : Prop where
  blk : Blk w' g t cs
  grown : w.grownBy w' (some g)

section
variable {a w w' : World} {g : Nat} {t : TypeId} {cs cs' : Array Value} {row : Option Nat}
theorem Z6c {a b c : World} {row : Option Nat} (h : a.grownBy b row) (k : b.grownBy c row) : a.grownBy c row :=
  ⟨k.os.trans h.os, k.tape.trans h.tape, k.output.trans h.output, Nat.le_trans h.size k.size, fun i hi hne => (k.block i (Nat.lt_of_lt_of_le hi h.size) hne).trans (h.block i hi hne)⟩
theorem only_drew (h : a.grownBy w row) : a.grownBy w.drew row := ⟨h.os, h.tape, h.output, h.size, h.block⟩
theorem Z1h {g : Nat} (h : a.grownBy w (some g)) {p : Addr} (hp : p.block = g ∨ a.heap.size ≤ p.block) (u : Value) : a.grownBy (w.setCell p u) (some g) :=
  ⟨h.os, h.tape, h.output, by simpa [World.setCell] using h.size, fun i hi hne => (Below.heap_setCell w p u i (by
    rintro rfl
    rcases hp with hp | hp
    · exact hne (by rw [hp])
    · omega)).trans (h.block i hi hne)⟩
theorem Z24 (h : Below a.heap.size a w) (row : Option Nat) : a.grownBy w row := ⟨h.os, h.tape, h.output, h.size, fun i hi _ => h.block i hi⟩

theorem Upd.refl (h : Blk w g t cs) : Upd w g t cs w := ⟨h, World.grownBy.refl w _⟩
theorem Upd.set (h : Upd a g t cs w) (i : Nat) (u : Value) : Upd a g t (cs.setIfInBounds i u) (w.setCell ⟨g, i, none⟩ u) :=
  ⟨h.blk.set_ i u, Z1h h.grown (.inl rfl) u⟩
theorem Upd.drew (h : Upd a g t cs w) : Upd a g t cs w.drew := ⟨h.blk, only_drew h.grown⟩
theorem Upd.trans {b : World} (h : Upd a g t cs b) (k : Upd b g t cs' w) : Upd a g t cs' w := ⟨k.blk, Z6c h.grown k.grown⟩
/-- The deed was on a block of the call's own. -/
theorem Upd.below {B : Nat} {A : World} (h : Upd w g t cs w') (hA : Below B A w) (hg : B ≤ g) (hB : B ≤ w.heap.size) : Below B A w' :=
  hA.grown h.grown hB (fun k e => by injection e with e; omega)
end

theorem ret_v {a b : Value} (h : a = b) : Ending.returned a = .returned b := by rw [h]

theorem Z57 {a b : Bool} (h : a = b) : Ending.returned (.bool a) = .returned (.bool b) := by rw [h]

/-- What an operation leaves: a fact of the slots L and of the world, kept by R. -/
structure TFact (R : World → World → Prop) where
  L : List Tmp
  T : Act → World → Prop
  loc : ∀ a a' w, (∀ t ∈ L, a.tmps[t]? = a'.tmps[t]?) → T a w → T a' w
  mono : ∀ a w w', R w w' → T a w → T a w'

structure Env (a0 : Act) (D : List Tmp) (a : Act) : Prop where
  size : a.tmps.size = a0.tmps.size
  defers : a.defers = a0.defers
  keep : ∀ t, t ∉ D → a.tmps[t]? = a0.tmps[t]?

def Yields (P : Program) (R : World → World → Prop) (o : Oper) (T : Act → World → Prop) (a : Act) (w : World) : Prop :=
  match (execOp a.eval o).run P w with
  | .ok (.value v) w' => R w w' ∧ T (a.put o.dst v) w'
  | .ok .skip w' => R w w' ∧ T (a.put o.dst undef) w'
  | .ok (.enter f args) w' => R w w' ∧ Calls P f args w' (fun e w'' => ∃ v, e = .returned v ∧ R w' w'' ∧ T (a.put o.dst v) w'')
  | _ => False
def opT (P : Program) (ops : Array Oper) (R : World → World → Prop) (o : Oper) (T : Act → World → Prop) (a : Act) (w : World) : Prop :=
  (Region.wanted o (yielded ops a.tmps) = true ∧ Yields P R o T a w) ∨ (Region.wanted o (yielded ops a.tmps) = false ∧ T (a.put o.dst undef) w)

/-- The check: edges go back; A lists ancestors; slots that facts read are their own operation's or an ancestor's. -/
def okB (ops : Array Oper) (D : List Tmp) (A : List (List Nat)) (Ls : List (List Tmp)) (m : Nat) : Bool :=
  (List.range ops.size).all fun k => match ops[k]? with
    | none => false
    | some o =>
      o.after.all (fun e => !Region.binds .any e || decide (e.on < k)) &&
      (A.getD k []).all (fun i => o.after.any fun e => Region.binds .any e && (e.on == i || (A.getD e.on []).contains i)) &&
      (decide (m ≤ k) || match o.dst with
        | none => true
        | some d => D.contains d && (List.range Ls.length).all fun i => i == k || (A.getD i []).contains k || !(Ls.getD i []).contains d)

section
variable {P : Program} {ops : Array Oper} {R : World → World → Prop} {w0 : World} {a0 : Act} {D : List Tmp} {A : List (List Nat)} {Fs : List (TFact R)} {m : Nat} {Q : Exit → Act → World → Prop}

theorem Z65 (h : okB ops D A (Fs.map TFact.L) m = true) {k : Nat} {o : Oper} (ho : ops[k]? = some o) :
    (∀ e ∈ o.after, Region.binds .any e = true → e.on < k) ∧
    (∀ i ∈ A.getD k [], ∃ e ∈ o.after, Region.binds .any e = true ∧ (e.on = i ∨ i ∈ A.getD e.on [])) ∧
    (k < m → ∀ d, o.dst = some d → d ∈ D ∧ ∀ i S, Fs[i]? = some S → i ≠ k → k ∉ A.getD i [] → d ∉ S.L) := by
  have hk : k < ops.size := (Array.getElem?_eq_some_iff.1 ho).1
  unfold okB at h
  rw [List.all_eq_true] at h
  have h1 := h k (List.mem_range.2 hk)
  simp only [ho, Bool.and_eq_true] at h1
  obtain ⟨⟨h1, h2⟩, h3⟩ := h1
  refine ⟨fun e he hb => ?_, fun i hi => ?_, fun hm d hd => ?_⟩
  · rw [Array.all_eq_true_iff_forall_mem] at h1
    have := h1 e he
    simpa [hb] using this
  · rw [List.all_eq_true] at h2
    have := h2 i hi
    rw [← Array.any_toList, List.any_eq_true] at this
    obtain ⟨e, he, hx⟩ := this
    rw [Array.mem_toList_iff] at he
    simp only [Bool.and_eq_true, Bool.or_eq_true, beq_iff_eq, List.contains_iff_mem] at hx
    exact ⟨e, he, hx.1, hx.2⟩
  · have hm' : decide (m ≤ k) = false := by simp; omega
    simp only [hm', hd, Bool.false_or, Bool.and_eq_true, List.contains_iff_mem] at h3
    refine ⟨h3.1, fun i S hS hne hna hmem => ?_⟩
    have h4 := h3.2
    rw [List.all_eq_true] at h4
    have hil : i < Fs.length := (List.getElem?_eq_some_iff.1 hS).1
    have := h4 i (List.mem_range.2 (by simpa using hil))
    simp only [Bool.or_eq_true, beq_iff_eq, List.contains_iff_mem, Bool.not_eq_true'] at this
    rcases this with (this | this) | this
    · exact hne this
    · exact hna this
    · have e : (Fs.map TFact.L).getD i [] = S.L := by simp [List.getD, hS]
      rw [e] at this
      have : S.L.contains d = true := by simpa using hmem
      simp_all

structure TInv (ops : Array Oper) (R : World → World → Prop) (w0 : World) (a0 : Act) (D : List Tmp) (Fs : List (TFact R)) (m : Nat) (listed : Array Bool) (a : Act) (w : World) : Prop where
  sz : listed.size = ops.size
  env : Env a0 D a
  r : R w0 w
  closed : ∀ j o, listed.getD j false = true → ops[j]? = some o → ∀ e ∈ o.after, Region.binds .any e = true → listed.getD e.on false = true
  typed : ∀ i S, listed.getD i false = true → Fs[i]? = some S → S.T a w
  un : ∀ i, m ≤ i → listed.getD i false = false

theorem Z20 (hok : okB ops D A (Fs.map TFact.L) m = true) {listed : Array Bool} (hc : ∀ j o, listed.getD j false = true → ops[j]? = some o → ∀ e ∈ o.after, Region.binds .any e = true → listed.getD e.on false = true) (hs : listed.size = ops.size) :
    ∀ k o, ops[k]? = some o → (∀ e ∈ o.after, Region.binds .any e = true → listed.getD e.on false = true) → ∀ i ∈ A.getD k [], listed.getD i false = true := by
  intro k
  induction k using Nat.strongRecOn with
  | _ k ih =>
    intro o ho hp i hi
    obtain ⟨h1, h2, _⟩ := Z65 hok ho
    obtain ⟨e, he, hb, hx⟩ := h2 i hi
    rcases hx with rfl | hx
    · exact hp e he hb
    · have hl := hp e he hb
      have hlt := h1 e he hb
      have hk : k < ops.size := (Array.getElem?_eq_some_iff.1 ho).1
      have ho' : ops[e.on]? = some ops[e.on] := Array.getElem?_eq_getElem (by omega)
      exact ih e.on hlt _ ho' (hc e.on _ hl ho') i hx

theorem Z19 {listed : Array Bool} {i : Nat} (h : i < listed.size) (b : Bool) : (listed.setIfInBounds i true).getD i b = true := by
  simp [h]
theorem Z0y {listed : Array Bool} {i : Nat} (h : i < listed.size) (b c : Bool) : listed.getD i b = listed.getD i c := by
  simp [h]

theorem count_set {listed : Array Bool} {i : Nat} (h : i < listed.size) (hf : listed.getD i true = false) (n : Nat) (hn : listed.toList.count false = n + 1) : (listed.setIfInBounds i true).toList.count false = n := by
  have he : listed.toList[i]'(by simpa using h) = false := by simpa [h] using hf
  rw [Array.toList_setIfInBounds, List.count_set (by simpa using h), he]
  simp only [beq_self_eq_true, if_true, hn]
  simp

theorem typed_any (hrt : ∀ x y z, R x y → R y z → R x z) (hok : okB ops D A (Fs.map TFact.L) m = true) (hlen : Fs.length = m) (hm : m = ops.size ∨ (m + 1 = ops.size ∧ ∀ j, j < m → j ∈ A.getD m []))
    (hstep : ∀ (k : Nat) (o : Oper) (S : TFact R), ops[k]? = some o → Fs[k]? = some S → ∀ a w, Env a0 D a → R w0 w → (∀ (i : Nat) (S' : TFact R), i ∈ A.getD k [] → Fs[i]? = some S' → S'.T a w) → opT P ops R o S.T a w)
    (hend : ∀ a w, Env a0 D a → R w0 w → (∀ (i : Nat) (S : TFact R), Fs[i]? = some S → S.T a w) → if m = ops.size then Q .normal a w else wpOp P ops Q m (fun a w => Q .normal a w) a w) (hrr : ∀ x, R x x) :
    ∀ (fuel : Nat) (listed : Array Bool) (a : Act) (w : World), TInv ops R w0 a0 D Fs m listed a w → listed.toList.count false = fuel → wpAny P .any ops Q fuel listed a w := by
  intro fuel
  have hall : ∀ (listed : Array Bool), listed.size = ops.size → listed.toList.count false = 0 → Region.ready .any ops listed = [] ∧ ∀ i, i < ops.size → listed.getD i false = true := by
    intro listed hs h0
    rw [List.count_eq_zero] at h0
    have hx : ∀ i, i < ops.size → listed.getD i false = true := by
      intro i hi
      have hi' : i < listed.size := by omega
      have : listed[i] ∈ listed.toList := by simp
      have hne : listed[i] ≠ false := fun e => h0 (e ▸ this)
      simpa [hi'] using hne
    refine ⟨?_, hx⟩
    rw [List.eq_nil_iff_forall_not_mem]
    intro j hj
    obtain ⟨h1, o, ho, _⟩ := mem_ready.1 hj
    have hjs : j < ops.size := (Array.getElem?_eq_some_iff.1 ho).1
    have := hx j hjs
    rw [Z0y (by omega) false true] at this
    rw [this] at h1
    cases h1
  induction fuel with
  | zero =>
    intro listed a w hI h0
    obtain ⟨hr, hx⟩ := hall listed hI.sz h0
    refine ⟨hr, ?_⟩
    rcases hm with hm | ⟨hm, _⟩
    · have := hend a w hI.env hI.r (fun i S hS => hI.typed i S (hx i (by have := (List.getElem?_eq_some_iff.1 hS).1; omega)) hS)
      rwa [if_pos hm] at this
    · have h1 := hx m (by omega)
      have h2 := hI.un m (Nat.le_refl _)
      rw [h1] at h2
      cases h2
  | succ fuel ih =>
    intro listed a w hI hcnt
    refine ⟨fun hr => ?_, fun i hi => ?_⟩
    · exfalso
      have : ∀ k, k < ops.size → listed.getD k false = true := by
        intro k
        induction k using Nat.strongRecOn with
        | _ k ihk =>
          intro hk
          cases hl : listed.getD k false with
          | true => rfl
          | false =>
            have ho : ops[k]? = some ops[k] := Array.getElem?_eq_getElem hk
            have : k ∈ Region.ready .any ops listed := mem_ready.2 ⟨by rw [Z0y (by have := hI.sz; omega) true false]; exact hl, _, ho, fun e he hb => by
              have hlt := (Z65 hok ho).1 e he hb
              exact ihk e.on hlt (by omega)⟩
            rw [hr] at this
            cases this
      have hz : listed.toList.count false = 0 := by
        rw [List.count_eq_zero]
        intro hmem
        obtain ⟨i, hi, he⟩ := List.getElem_of_mem hmem
        have hi' : i < listed.size := by simpa using hi
        have := this i (by have := hI.sz; omega)
        simp [hi'] at this
        simp [this] at he
      omega
    · obtain ⟨hun, o, ho, hpre⟩ := mem_ready.1 hi
      have hio : i < ops.size := (Array.getElem?_eq_some_iff.1 ho).1
      have his : i < listed.size := by have := hI.sz; omega
      have hanc := Z20 hok hI.closed hI.sz i o ho hpre
      by_cases him : i < m
      · obtain ⟨S, hS⟩ : ∃ S, Fs[i]? = some S := ⟨_, List.getElem?_eq_getElem (by omega)⟩
        have hst := hstep i o S ho hS a w hI.env hI.r (fun j S' hj hS' => hI.typed j S' (hanc j hj) hS')
        -- the state behind the operation
        have hnext : ∀ v w', R w w' → S.T (a.put o.dst v) w' → TInv ops R w0 a0 D Fs m (listed.setIfInBounds i true) (a.put o.dst v) w' := by
          intro v w' hR hT
          obtain ⟨_, _, h3⟩ := Z65 hok ho
          have h3 := h3 him
          refine ⟨by simpa using hI.sz, ⟨?_, ?_, ?_⟩, hrt _ _ _ hI.r hR, ?_, ?_, ?_⟩
          · rw [← hI.env.size]; cases hd : o.dst <;> simp [Act.put]
          · rw [← hI.env.defers]; cases hd : o.dst <;> simp [Act.put]
          · intro t ht
            rw [← hI.env.keep t ht]
            cases hd : o.dst with
            | none => simp [Act.put]
            | some d =>
              have := (h3 d hd).1
              have hne : d ≠ t := fun e => ht (e ▸ this)
              simp [Act.put, Array.getElem?_setIfInBounds_ne hne]
          · intro j oj hj hoj e he hb
            by_cases hji : i = j
            · subst hji
              rw [ho] at hoj
              cases hoj
              by_cases hei : i = e.on
              · rw [← hei]; exact Z19 his _
              · rw [getD_set_ne false hei]; exact hpre e he hb
            · rw [getD_set_ne false hji] at hj
              by_cases hei : i = e.on
              · rw [← hei]; exact Z19 his _
              · rw [getD_set_ne false hei]; exact hI.closed j oj hj hoj e he hb
          · intro j S' hj hS'
            by_cases hji : i = j
            · subst hji
              rw [hS] at hS'
              cases hS'
              exact hT
            · rw [getD_set_ne false hji] at hj
              have hold := S'.mono _ _ _ hR (hI.typed j S' hj hS')
              refine S'.loc _ _ _ (fun t ht => ?_) hold
              cases hd : o.dst with
              | none => simp [Act.put]
              | some d =>
                have hja : i ∉ A.getD j [] := by
                  intro hmem
                  obtain ⟨oj, hoj⟩ : ∃ oj, ops[j]? = some oj := ⟨_, Array.getElem?_eq_getElem (by have := (List.getElem?_eq_some_iff.1 hS').1; omega)⟩
                  have := Z20 hok hI.closed hI.sz j oj hoj (hI.closed j oj hj hoj) i hmem
                  rw [Z0y his false true, hun] at this
                  cases this
                have hne : d ≠ t := fun e => (h3 d hd).2 j S' hS' (fun e => hji e.symm) hja (e ▸ ht)
                simp [Act.put, Array.getElem?_setIfInBounds_ne hne]
          · intro j hj
            have : i ≠ j := by omega
            rw [getD_set_ne false this]
            exact hI.un j hj
        have hk : ∀ v w', R w w' → S.T (a.put o.dst v) w' → wpAny P .any ops Q fuel (listed.setIfInBounds i true) (a.put o.dst v) w' :=
          fun v w' hR hT => ih _ _ _ (hnext v w' hR hT) (count_set his hun _ hcnt)
        unfold wpOp
        simp only [ho]
        rcases hst with ⟨hw, hy⟩ | ⟨hw, hT⟩
        · rw [if_pos hw]
          refine .inl ?_
          unfold Yields at hy
          unfold Oper.wp
          generalize (execOp a.eval o).run P w = r at hy ⊢
          cases r with
          | halt x w' => exact hy.elim
          | ok n w' =>
            cases n <;> simp only [Oper.upon] at hy ⊢
            case value v => exact hk v w' hy.1 hy.2
            case skip => exact hk undef w' hy.1 hy.2
            case enter f args =>
              refine hy.2.mono fun e w'' ⟨v, he, hR, hT⟩ => ?_
              subst he
              exact hk v w'' (hrt _ _ _ hy.1 hR) hT
        · rw [if_neg (by rw [hw]; exact Bool.false_ne_true)]
          exact hk undef w (hrr w) hT
      · rcases hm with hm | ⟨hm, hmall⟩
        · omega
        · obtain rfl : i = m := by omega
          have hl : ∀ j, j < i → listed.getD j false = true := fun j hj => hanc j (hmall j hj)
          have he := hend a w hI.env hI.r (fun j S hS => hI.typed j S (hl j (by have := (List.getElem?_eq_some_iff.1 hS).1; omega)) hS)
          rw [if_neg (by omega)] at he
          have hf0 : fuel = 0 := by
            have hz : (listed.setIfInBounds i true).toList.count false = 0 := by
              rw [List.count_eq_zero]
              intro hmem
              obtain ⟨j, hj, hje⟩ := List.getElem_of_mem hmem
              have hj' : j < listed.size := by simpa using hj
              by_cases hji : i = j
              · subst hji
                simp at hje
              · have := hl j (by have := hI.sz; omega)
                rw [← getD_set_ne (i := i) false hji] at this
                simp [hj'] at this
                rw [Array.getElem_toList, this] at hje
                cases hje
            have := count_set his hun _ hcnt
            omega
          subst hf0
          refine wpOp_mono (fun a' w' hq => ?_) he
          exact ⟨(hall _ (by simpa using hI.sz) (count_set his hun _ hcnt)).1, hq⟩

theorem Z25 (n i : Nat) : (Array.replicate n false).getD i false = false := by
  simp only [Array.getD_eq_getD_getElem?, Array.getElem?_replicate]
  split <;> rfl

/-- THE THEOREM: each operation's fact, shown once. -/
theorem Z3u {id : Nat} {l : List Oper} {w : World} (Fs : List (TFact R)) (A : List (List Nat)) (D : List Tmp) (hf : P.follows .mixedOrders = true) (hok : okB l.toArray D A (Fs.map TFact.L) Fs.length = true)
    (hm : (decide (Fs.length = l.length) || (decide (Fs.length + 1 = l.length) && (List.range Fs.length).all fun j => (A.getD Fs.length []).contains j)) = true)
    (hrr : ∀ x, R x x) (hrt : ∀ x y z, R x y → R y z → R x z) (hw0 : R w0 w.drew)
    (hstep : ∀ (k : Nat) (o : Oper) (S : TFact R), l[k]? = some o → Fs[k]? = some S → ∀ a w, Env a0 D a → R w0 w → (∀ (i : Nat) (S' : TFact R), i ∈ A.getD k [] → Fs[i]? = some S' → S'.T a w) → opT P l.toArray R o S.T a w)
    (hend : ∀ a w, Env a0 D a → R w0 w → (∀ (i : Nat) (S : TFact R), Fs[i]? = some S → S.T a w) → if Fs.length = l.length then Q .normal a w else wpOp P l.toArray Q Fs.length (fun a w => Q .normal a w) a w) :
    (Code.region id l.toArray true).wp P Q a0 w := by
  refine wp_region_any hf ?_
  refine typed_any (a0 := a0) (w0 := w0) (R := R) (Fs := Fs) (A := A) (D := D) (m := Fs.length) hrt hok rfl ?_ (by simpa using hstep) (by simpa using hend) hrr _ _ _ _ ?_ (by simp)
  · simp only [Bool.or_eq_true, Bool.and_eq_true, decide_eq_true_eq, List.all_eq_true, List.mem_range, List.contains_iff_mem] at hm
    simpa using hm
  · refine ⟨by simp, ⟨rfl, rfl, fun _ _ => rfl⟩, hw0, ?_, ?_, ?_⟩
    · intro j o hj
      rw [Z25] at hj
      cases hj
    · intro i S hi
      rw [Z25] at hi
      cases hi
    · intro i _
      exact Z25 _ _
end

/-- What was there is as it was. -/
abbrev Ext (w w' : World) : Prop := Below w.heap.size w w'
theorem Ext.refl (w : World) : Ext w w := Below.refl _ _
theorem Ext.trans {x y z : World} (h : Ext x y) (k : Ext y z) : Ext x z := Below.trans h (Below.mono k h.size)
theorem Ext.drew (w : World) : Ext w w.drew := (Below.refl _ w).drew
theorem Ext.alloc (w : World) (o : Obj) : Ext w (w.alloc o) := (Below.refl _ w).alloc (Nat.le_refl _) o
theorem Blk.ext {w w' : World} {g : Nat} {t : TypeId} {cs : Array Value} (h : Blk w g t cs) (k : Ext w w') : Blk w' g t cs := h.below k h.lt

section
variable {R : World → World → Prop}
theorem Z1b (a : Act) (t : Tmp) : a.eval (.tmp t) = a.tmps.getD t undef := rfl
theorem ev {a : Act} {t : Tmp} {v : Value} (h : a.eval (.tmp t) = v) : a.tmps[t]?.getD undef = v := by rw [← h, Z1b, Array.getD_eq_getD_getElem?]
theorem Z15 {a a' : Act} {t : Tmp} (h : a.tmps[t]? = a'.tmps[t]?) : a.eval (.tmp t) = a'.eval (.tmp t) := by
  simp only [Z1b, Array.getD_eq_getD_getElem?, h]
/-- The slot holds this value. -/
def det (d : Tmp) (v : Value) : TFact R := ⟨[d], fun a _ => a.eval (.tmp d) = v, fun a a' _ h e => (Z15 (h d (by simp))).symm.trans e, fun _ _ _ _ e => e⟩
/-- The slot holds a value of which this holds. -/
def fresh (d : Tmp) (φ : Value → World → Prop) (hφ : ∀ v w w', R w w' → φ v w → φ v w') : TFact R := ⟨[d], fun a w => φ (a.eval (.tmp d)) w, fun a a' w h e => by rw [← Z15 (h d (by simp))]; exact e, fun a w w' hR e => hφ _ _ _ hR e⟩
variable {P : Program} {ops : Array Oper} {w0 : World} {a0 : Act} {D : List Tmp} {A : List (List Nat)} {Fs : List (TFact R)}
theorem Env.eval {a : Act} (h : Env a0 D a) (t : Tmp) {v : Value} (ht : D.contains t = false) (hv : a0.eval (.tmp t) = v) : a.eval (.tmp t) = v :=
  (Z15 (h.keep t (by simpa using ht))).trans hv

variable {o : Oper} {a : Act} {w w' : World} {d : Tmp} {v : Value}
theorem Z0d (hg : o.guard = none) : Region.wanted o (yielded ops a.tmps) = true := by unfold Region.wanted; rw [hg]
theorem Z14 {j dj : Nat} {b c : Bool} (hg : o.guard = some (j, b)) (hj : (ops[j]?).bind (·.dst) = some dj) (he : a.eval (.tmp dj) = .bool c) : Region.wanted o (yielded ops a.tmps) = (c == b) := by
  have : a.tmps[dj]? = some (.bool c) := by
    rw [Z1b, Array.getD_eq_getD_getElem?] at he
    cases hx : a.tmps[dj]? with
    | none => rw [hx] at he; cases he
    | some x => rw [hx] at he; exact congrArg some he
  unfold Region.wanted yielded
  simp [hg, hj, this]
theorem Z0g (hs : d < a.tmps.size) : (a.put (some d) v).eval (.tmp d) = v := by
  simp [Act.put, Z1b, hs]
theorem opT_det (hd : o.dst = some d) (hs : d < a.tmps.size) (hr : R w w) (hw : Region.wanted o (yielded ops a.tmps) = true) (h : (execOp a.eval o).run P w = .ok (.value v) w) : opT P ops R o (det (R := R) d v).T a w := by
  refine .inl ⟨hw, ?_⟩
  unfold Yields
  rw [h]
  exact ⟨hr, by rw [hd]; exact Z0g hs⟩
theorem opT_skip (hd : o.dst = some d) (hs : d < a.tmps.size) (hw : Region.wanted o (yielded ops a.tmps) = false) : opT P ops R o (det (R := R) d undef).T a w :=
  .inr ⟨hw, by rw [hd]; exact Z0g hs⟩
theorem opT_call {f : FuncId} {args : Array Value} (hd : o.dst = some d) (hs : d < a.tmps.size) (hr : R w w) (hw : Region.wanted o (yielded ops a.tmps) = true) (h : (execOp a.eval o).run P w = .ok (.enter f args) w)
    (hc : Calls P f args w fun e w' => e = .returned v ∧ R w w') : opT P ops R o (det (R := R) d v).T a w := by
  refine .inl ⟨hw, ?_⟩
  unfold Yields
  rw [h]
  exact ⟨hr, hc.mono fun e w' ⟨he, hR⟩ => ⟨v, he, hR, by rw [hd]; exact Z0g hs⟩⟩
theorem opT_new {φ : Value → World → Prop} {hφ : ∀ v w w', R w w' → φ v w → φ v w'} (hd : o.dst = some d) (hs : d < a.tmps.size) (hw : Region.wanted o (yielded ops a.tmps) = true) (h : (execOp a.eval o).run P w = .ok (.value v) w') (hr : R w w') (hv : φ v w') :
    opT P ops R o (fresh (R := R) d φ hφ).T a w := by
  refine .inl ⟨hw, ?_⟩
  unfold Yields
  rw [h]
  exact ⟨hr, by rw [hd]; show φ ((a.put (some d) v).eval (.tmp d)) w'; rw [Z0g hs]; exact hv⟩
theorem Z70 {φ : Value → World → Prop} {hφ : ∀ v w w', R w w' → φ v w → φ v w'} {f : FuncId} {args : Array Value} (hd : o.dst = some d) (hs : d < a.tmps.size) (hr : R w w) (hw : Region.wanted o (yielded ops a.tmps) = true) (h : (execOp a.eval o).run P w = .ok (.enter f args) w)
    (hc : Calls P f args w fun e w' => ∃ v, e = .returned v ∧ R w w' ∧ φ v w') : opT P ops R o (fresh (R := R) d φ hφ).T a w := by
  refine .inl ⟨hw, ?_⟩
  unfold Yields
  rw [h]
  exact ⟨hr, hc.mono fun e w' ⟨v, he, hR, hv⟩ => ⟨v, he, hR, by rw [hd]; show φ ((a.put (some d) v).eval (.tmp d)) w'; rw [Z0g hs]; exact hv⟩⟩

theorem frame_eq {a0 a : Act} {D : List Tmp} (hE : Env a0 D a) (DV : List (Tmp × Value)) (hD : DV.map Prod.fst = D) (hv : ∀ p ∈ DV, a.eval (.tmp p.1) = p.2) : a = DV.foldl (fun x p => x.put (some p.1) p.2) a0 := by
  subst hD
  obtain ⟨h1, h2, h3⟩ := hE
  induction DV generalizing a0 with
  | nil =>
    obtain ⟨t, df⟩ := a
    obtain ⟨t0, df0⟩ := a0
    simp only at h1 h2
    subst h2
    have : t = t0 := Array.ext_getElem? (fun i => h3 i (by simp))
    rw [List.foldl_nil, this]
  | cons p DV ih =>
    rw [List.foldl_cons]
    refine ih (fun q hq => hv q (List.mem_cons_of_mem _ hq)) ?_ ?_ ?_
    · simpa [Act.put] using h1
    · simpa [Act.put] using h2
    · intro t ht
      by_cases hp : p.1 = t
      · have he := hv p (by simp)
        rw [Z1b, Array.getD_eq_getD_getElem?] at he
        subst hp
        simp only [Act.put, Array.getElem?_setIfInBounds_self]
        by_cases hs : p.1 < a.tmps.size
        · rw [Array.getElem?_eq_getElem hs] at he ⊢
          rw [← h1, if_pos hs]
          exact congrArg some he
        · have hs0 : ¬ p.1 < a0.tmps.size := h1 ▸ hs
          rw [Array.getElem?_eq_none (xs := a.tmps) (Nat.le_of_not_lt hs), if_neg hs0]
      · rw [h3 t (by simp; exact ⟨fun e => hp e.symm, by simpa using ht⟩)]
        simp [Act.put, Array.getElem?_setIfInBounds_ne hp]

/-- The facts, one operation behind the other. -/
inductive Build (P : Program) (ops : Array Oper) (R : World → World → Prop) (w0 : World) (a0 : Act) (D : List Tmp) (A : List (List Nat)) (G : List (Nat × TFact R) → Prop) : Nat → List Oper → List (Nat × TFact R) → Prop
  | stop {k : Nat} {os : List Oper} {done : List (Nat × TFact R)} (h : G done) : Build P ops R w0 a0 D A G k os done
  | step {k : Nat} {o : Oper} {os : List Oper} {done : List (Nat × TFact R)} (S : TFact R) (h : ∀ a w, Env a0 D a → R w0 w → (∀ (i : Nat) (S' : TFact R), i ∈ A.getD k [] → (i, S') ∈ done → S'.T a w) → opT P ops R o S.T a w)
      (hr : Build P ops R w0 a0 D A G (k + 1) os ((k, S) :: done)) : Build P ops R w0 a0 D A G k (o :: os) done

variable {G : List (Nat × TFact R) → Prop} {k : Nat} {os : List Oper} {done : List (Nat × TFact R)} {Q : Exit → Act → World → Prop}
abbrev facts (done : List (Nat × TFact R)) : List (TFact R) := done.reverse.map Prod.snd
theorem Z1a (x : Nat × TFact R) (done : List (Nat × TFact R)) : facts (x :: done) = facts done ++ [x.2] := by simp [facts]
theorem Z0p (done : List (Nat × TFact R)) : (facts done).length = done.length := by simp [facts]
theorem Build.use (hb : Build P ops R w0 a0 D A G k os done) (hk : k = done.length) (hwf : ∀ (i : Nat) (S : TFact R), (i, S) ∈ done → (facts done)[i]? = some S) : ∃ fin : List (Nat × TFact R), G fin ∧ (∀ (i : Nat) (S : TFact R), (facts done)[i]? = some S → (facts fin)[i]? = some S) ∧
    (∀ (i : Nat) (S : TFact R), (i, S) ∈ fin → (facts fin)[i]? = some S) ∧ done.length ≤ fin.length ∧
    ∀ (i : Nat) (o : Oper) (S : TFact R), os[i]? = some o → (facts fin)[k + i]? = some S → ∀ a w, Env a0 D a → R w0 w → (∀ (j : Nat) (S' : TFact R), j ∈ A.getD (k + i) [] → (facts fin)[j]? = some S' → S'.T a w) → opT P ops R o S.T a w := by
  induction hb with
  | stop h =>
    rename_i k os done
    refine ⟨done, h, fun _ _ h => h, hwf, Nat.le_refl _, fun i o S _ hS => ?_⟩
    rw [List.getElem?_eq_none (by rw [Z0p]; omega)] at hS
    cases hS
  | step S h hr ih =>
    rename_i k o os done
    have hpre0 : ∀ (i : Nat) (S' : TFact R), (facts done)[i]? = some S' → (facts ((k, S) :: done))[i]? = some S' := fun i S' hi => by
      have hlt := (List.getElem?_eq_some_iff.1 hi).1
      rw [Z1a, List.getElem?_append_left hlt]; exact hi
    obtain ⟨fin, hG, h1, hw, h2, h4⟩ := ih (by simp [hk]) (fun i S' hm => by
      rcases List.mem_cons.1 hm with he | hm
      · cases he
        rw [Z1a, hk, ← Z0p done]
        simp
      · exact hpre0 i S' (hwf i S' hm))
    refine ⟨fin, hG, fun i S' hi => h1 i S' (hpre0 i S' hi), hw, by simp at h2; omega, ?_⟩
    intro i o' S' hi hS
    cases i with
    | zero =>
      simp at hi
      subst hi
      have : (facts fin)[k + 0]? = some S := h1 k S (by rw [Z1a, hk, ← Z0p done]; simp)
      rw [this] at hS
      cases hS
      intro a w hE hR hF
      exact h a w hE hR (fun j S' hj hd => hF j S' hj (h1 j S' (hpre0 j S' (hwf j S' hd))))
    | succ i =>
      have := h4 i o' S' (by simpa using hi) (by rwa [show k + 1 + i = k + (i + 1) by omega])
      intro a w hE hR hF
      exact this a w hE hR (fun j S' hj hd => hF j S' (by rwa [show k + (i + 1) = k + 1 + i by omega]) hd)

/-- What is asked at the end of the facts. -/
def Fin (P : Program) (l : List Oper) (w0 : World) (a0 : Act) (D : List Tmp) (A : List (List Nat)) (Q : Exit → Act → World → Prop) (fin : List (Nat × TFact R)) : Prop :=
  okB l.toArray D A ((facts fin).map TFact.L) fin.length = true ∧
    ((fin.length = l.length ∧ ∀ a w, Env a0 D a → R w0 w → (∀ (i : Nat) (S : TFact R), (i, S) ∈ fin → S.T a w) → Q .normal a w) ∨
     ((decide (fin.length + 1 = l.length) && (List.range fin.length).all fun j => (A.getD fin.length []).contains j) = true ∧ ∃ o, l[fin.length]? = some o ∧ o.guard = none ∧
        ∀ a w, Env a0 D a → R w0 w → (∀ (i : Nat) (S : TFact R), (i, S) ∈ fin → S.T a w) → o.wp P a w (fun a w => Q .normal a w) Q))
theorem Z0b {id : Nat} {l : List Oper} {w : World} (A : List (List Nat)) (D : List Tmp) (hrr : ∀ x, R x x) (hrt : ∀ x y z, R x y → R y z → R x z) (hw0 : R w0 w.drew) (hf : P.follows .mixedOrders = true)
    (h : Build P l.toArray R w0 a0 D A (Fin P l w0 a0 D A Q) 0 l []) : (Code.region id l.toArray true).wp P Q a0 w := by
  obtain ⟨fin, ⟨hok, hG⟩, -, hw, -, hstep⟩ := h.use rfl (fun _ _ h => by cases h)
  have hlen := Z0p fin
  refine Z3u (facts fin) A D hf (by rw [hlen]; exact hok) ?_ hrr hrt hw0 (fun k o S h1 h2 a w hE hR hF => hstep k o S h1 (by simpa using h2) a w hE hR (by simpa using hF)) (fun a w hE hR hF => ?_)
  · rw [hlen]
    rcases hG with hG | hG
    · simp [hG.1]
    · rw [hG.1]; simp
  · rw [hlen]
    rcases hG with hG | hG
    · rw [if_pos hG.1]; exact hG.2 a w hE hR (fun i S hm => hF i S (hw i S hm))
    · obtain ⟨hl, o, ho, hg, hend⟩ := hG
      have hl : fin.length + 1 = l.length := by simp at hl; exact hl.1
      rw [if_neg (by omega)]
      unfold wpOp
      simp only [List.getElem?_toArray, ho]
      rw [if_pos (Z0d hg)]
      exact .inl (hend a w hE hR (fun i S hm => hF i S (hw i S hm)))

/-- An operation that leaves the world alone. -/
theorem Build.det (d : Tmp) {v : Value} (hrr : ∀ x, R x x) (hd : o.dst = some d) (hn : Nat.blt d a0.tmps.size = true) (hg : o.guard = none)
    (h : ∀ a w, Env a0 D a → R w0 w → (∀ (i : Nat) (S' : TFact R), i ∈ A.getD k [] → (i, S') ∈ done → S'.T a w) → (execOp a.eval o).run P w = .ok (.value v) w)
    (hr : Build P ops R w0 a0 D A G (k + 1) os ((k, Proofs.Ytbfgacmfjfbooaa.det d v) :: done)) : Build P ops R w0 a0 D A G k (o :: os) done :=
  .step _ (fun a w hE hR hF => opT_det hd (by rw [hE.size]; exact Nat.le_of_ble_eq_true hn) (hrr w) (Z0d hg) (h a w hE hR hF)) hr
/-- A guarded one that is wanted. -/
theorem Build.detg (d : Tmp) {v : Value} {j dj : Nat} {b : Bool} (hrr : ∀ x, R x x) (hd : o.dst = some d) (hn : Nat.blt d a0.tmps.size = true) (hg : o.guard = some (j, b)) (hj : (ops[j]?).bind (·.dst) = some dj)
    (h : ∀ a w, Env a0 D a → R w0 w → (∀ (i : Nat) (S' : TFact R), i ∈ A.getD k [] → (i, S') ∈ done → S'.T a w) → a.eval (.tmp dj) = .bool b ∧ (execOp a.eval o).run P w = .ok (.value v) w)
    (hr : Build P ops R w0 a0 D A G (k + 1) os ((k, Proofs.Ytbfgacmfjfbooaa.det d v) :: done)) : Build P ops R w0 a0 D A G k (o :: os) done :=
  .step _ (fun a w hE hR hF => opT_det hd (by rw [hE.size]; exact Nat.le_of_ble_eq_true hn) (hrr w) ((Z14 hg hj (h a w hE hR hF).1).trans (by simp)) (h a w hE hR hF).2) hr
/-- A guarded one that is not. -/
theorem Build.skip (d : Tmp) {j dj : Nat} {b : Bool} (hd : o.dst = some d) (hn : Nat.blt d a0.tmps.size = true) (hg : o.guard = some (j, b)) (hj : (ops[j]?).bind (·.dst) = some dj)
    (h : ∀ a w, Env a0 D a → R w0 w → (∀ (i : Nat) (S' : TFact R), i ∈ A.getD k [] → (i, S') ∈ done → S'.T a w) → a.eval (.tmp dj) = .bool (!b))
    (hr : Build P ops R w0 a0 D A G (k + 1) os ((k, Proofs.Ytbfgacmfjfbooaa.det d undef) :: done)) : Build P ops R w0 a0 D A G k (o :: os) done :=
  .step _ (fun a w hE hR hF => opT_skip hd (by rw [hE.size]; exact Nat.le_of_ble_eq_true hn) ((Z14 hg hj (h a w hE hR hF)).trans (by simp))) hr
/-- A call whose value is known. -/
theorem Build.call (d : Tmp) {v : Value} {f : FuncId} {args : Array Value} (hrr : ∀ x, R x x) (hd : o.dst = some d) (hn : Nat.blt d a0.tmps.size = true) (hg : o.guard = none)
    (h : ∀ a w, Env a0 D a → R w0 w → (∀ (i : Nat) (S' : TFact R), i ∈ A.getD k [] → (i, S') ∈ done → S'.T a w) → (execOp a.eval o).run P w = .ok (.enter f args) w)
    (hc : ∀ w, R w0 w → Calls P f args w fun e w' => e = .returned v ∧ R w w')
    (hr : Build P ops R w0 a0 D A G (k + 1) os ((k, Proofs.Ytbfgacmfjfbooaa.det d v) :: done)) : Build P ops R w0 a0 D A G k (o :: os) done :=
  .step _ (fun a w hE hR hF => opT_call hd (by rw [hE.size]; exact Nat.le_of_ble_eq_true hn) (hrr w) (Z0d hg) (h a w hE hR hF) (hc w hR)) hr
/-- One that makes something of its own. -/
theorem Build.new (d : Tmp) (φ : Value → World → Prop) (hφ : ∀ v w w', R w w' → φ v w → φ v w') (hd : o.dst = some d) (hn : Nat.blt d a0.tmps.size = true) (hg : o.guard = none)
    (h : ∀ a w, Env a0 D a → R w0 w → (∀ (i : Nat) (S' : TFact R), i ∈ A.getD k [] → (i, S') ∈ done → S'.T a w) → ∃ v w', (execOp a.eval o).run P w = .ok (.value v) w' ∧ R w w' ∧ φ v w')
    (hr : Build P ops R w0 a0 D A G (k + 1) os ((k, fresh d φ hφ) :: done)) : Build P ops R w0 a0 D A G k (o :: os) done :=
  .step _ (fun a w hE hR hF => by
    obtain ⟨v, w', h1, h2, h3⟩ := h a w hE hR hF
    exact opT_new hd (by rw [hE.size]; exact Nat.le_of_ble_eq_true hn) (Z0d hg) h1 h2 h3) hr
theorem Build.callnew (d : Tmp) (φ : Value → World → Prop) (hφ : ∀ v w w', R w w' → φ v w → φ v w') {f : FuncId} {args : Array Value} (hrr : ∀ x, R x x) (hd : o.dst = some d) (hn : Nat.blt d a0.tmps.size = true) (hg : o.guard = none)
    (h : ∀ a w, Env a0 D a → R w0 w → (∀ (i : Nat) (S' : TFact R), i ∈ A.getD k [] → (i, S') ∈ done → S'.T a w) → (execOp a.eval o).run P w = .ok (.enter f args) w)
    (hc : ∀ w, R w0 w → Calls P f args w fun e w' => ∃ v, e = .returned v ∧ R w w' ∧ φ v w')
    (hr : Build P ops R w0 a0 D A G (k + 1) os ((k, fresh d φ hφ) :: done)) : Build P ops R w0 a0 D A G k (o :: os) done :=
  .step _ (fun a w hE hR hF => Z70 hd (by rw [hE.size]; exact Nat.le_of_ble_eq_true hn) (hrr w) (Z0d hg) (h a w hE hR hF) (hc w hR)) hr

inductive AllEq (a : Act) : List (Tmp × Value) → Prop
  | nil : AllEq a []
  | cons {d : Tmp} {v : Value} {l : List (Tmp × Value)} (h : a.eval (.tmp d) = v) (hr : AllEq a l) : AllEq a ((d, v) :: l)
theorem AllEq.all {a : Act} {l : List (Tmp × Value)} (h : AllEq a l) : ∀ p ∈ l, a.eval (.tmp p.1) = p.2 := by
  induction h with
  | nil => intro p hp; cases hp
  | cons h hr ih =>
    intro p hp
    rcases List.mem_cons.1 hp with rfl | hp
    · exact h
    · exact ih p hp
theorem AllEq.frame {a0 a : Act} {D : List Tmp} {DV : List (Tmp × Value)} (h : AllEq a DV) (hE : Env a0 D a) (hD : DV.map Prod.fst = D) : a = DV.foldl (fun x p => x.put (some p.1) p.2) a0 := frame_eq hE DV hD h.all
theorem Z0z {K : Act → World → Prop} (h : (execOp a.eval o).run P w = .ok (.value v) w') (hk : K (a.put o.dst v) w') : o.wp P a w K Q := by unfold Oper.wp; rw [h]; exact hk
theorem Z21 {K : Act → World → Prop} {f : FuncId} {args : Array Value} {S : Ending → World → Prop} (h : (execOp a.eval o).run P w = .ok (.enter f args) w') (hc : Calls P f args w' S) (hk : ∀ e w'', S e w'' → ∃ v, e = .returned v ∧ K (a.put o.dst v) w'') : o.wp P a w K Q := by
  unfold Oper.wp
  rw [h]
  exact hc.mono fun e w'' hS => by obtain ⟨v, rfl, hK⟩ := hk e w'' hS; exact hK
theorem Z1t {K : Act → World → Prop} (h : (execOp a.eval o).run P w = .ok .skip w') (hk : K (a.put o.dst undef) w') : o.wp P a w K Q := by unfold Oper.wp; rw [h]; exact hk
end

/-- No relation of worlds. -/
abbrev Any2 : World → World → Prop := fun _ _ => True
def upd (l : Nat → Bool) (k : Nat) : Nat → Bool := fun i => if i = k then true else l i

def YieldsI (P : Program) (J : World → Prop) (o : Oper) (T : Act → World → Prop) (a : Act) (w : World) : Prop :=
  match (execOp a.eval o).run P w with
  | .ok (.value v) w' => J w' ∧ T (a.put o.dst v) w'
  | .ok .skip w' => J w' ∧ T (a.put o.dst undef) w'
  | .ok (.enter f args) w' => Calls P f args w' (fun e w'' => ∃ v, e = .returned v ∧ J w'' ∧ T (a.put o.dst v) w'')
  | _ => False
def opI (P : Program) (ops : Array Oper) (J : World → Prop) (o : Oper) (T : Act → World → Prop) (a : Act) (w : World) : Prop :=
  (Region.wanted o (yielded ops a.tmps) = true ∧ YieldsI P J o T a w) ∨ (Region.wanted o (yielded ops a.tmps) = false ∧ J w ∧ T (a.put o.dst undef) w)

section
variable {P : Program} {ops : Array Oper} {I : (Nat → Bool) → World → Prop} {a0 : Act} {D : List Tmp} {A : List (List Nat)} {Fs : List (TFact Any2)} {m : Nat} {Q : Exit → Act → World → Prop}

structure PInv (ops : Array Oper) (I : (Nat → Bool) → World → Prop) (a0 : Act) (D : List Tmp) (Fs : List (TFact Any2)) (m : Nat) (listed : Array Bool) (a : Act) (w : World) : Prop where
  sz : listed.size = ops.size
  env : Env a0 D a
  inv : I (fun i => listed.getD i false) w
  closed : ∀ j o, listed.getD j false = true → ops[j]? = some o → ∀ e ∈ o.after, Region.binds .any e = true → listed.getD e.on false = true
  typed : ∀ i S, listed.getD i false = true → Fs[i]? = some S → S.T a w
  un : ∀ i, m ≤ i → listed.getD i false = false

theorem upd_listed {listed : Array Bool} {i : Nat} (h : i < listed.size) : (fun j => (listed.setIfInBounds i true).getD j false) = upd (fun j => listed.getD j false) i := by
  funext j
  unfold upd
  by_cases hj : j = i
  · subst hj; rw [if_pos rfl]; exact Z19 h _
  · rw [if_neg hj]; exact getD_set_ne false (fun e => hj e.symm)

inductive BuildI (P : Program) (ops : Array Oper) (I : (Nat → Bool) → World → Prop) (a0 : Act) (D : List Tmp) (A : List (List Nat)) (G : List (Nat × TFact Any2) → Prop) : Nat → List Oper → List (Nat × TFact Any2) → Prop
  | stop {k : Nat} {os : List Oper} {done : List (Nat × TFact Any2)} (h : G done) : BuildI P ops I a0 D A G k os done
  | step {k : Nat} {o : Oper} {os : List Oper} {done : List (Nat × TFact Any2)} (S : TFact Any2) (h : ∀ l a w, Env a0 D a → I l w → l k = false → (∀ i ∈ A.getD k [], l i = true) → (∀ (i : Nat) (S' : TFact Any2), i ∈ A.getD k [] → (i, S') ∈ done → S'.T a w) → opI P ops (I (upd l k)) o S.T a w)
      (hr : BuildI P ops I a0 D A G (k + 1) os ((k, S) :: done)) : BuildI P ops I a0 D A G k (o :: os) done

variable {G : List (Nat × TFact Any2) → Prop} {k : Nat} {o : Oper} {os : List Oper} {done : List (Nat × TFact Any2)} {d : Tmp} {v : Value}
theorem BuildI.use (hb : BuildI P ops I a0 D A G k os done) (hk : k = done.length) (hwf : ∀ (i : Nat) (S : TFact Any2), (i, S) ∈ done → (facts done)[i]? = some S) : ∃ fin : List (Nat × TFact Any2), G fin ∧ (∀ (i : Nat) (S : TFact Any2), (facts done)[i]? = some S → (facts fin)[i]? = some S) ∧
    (∀ (i : Nat) (S : TFact Any2), (i, S) ∈ fin → (facts fin)[i]? = some S) ∧ done.length ≤ fin.length ∧
    ∀ (i : Nat) (o : Oper) (S : TFact Any2), os[i]? = some o → (facts fin)[k + i]? = some S → ∀ l a w, Env a0 D a → I l w → l (k + i) = false → (∀ j ∈ A.getD (k + i) [], l j = true) → (∀ (j : Nat) (S' : TFact Any2), j ∈ A.getD (k + i) [] → (facts fin)[j]? = some S' → S'.T a w) → opI P ops (I (upd l (k + i))) o S.T a w := by
  induction hb with
  | stop h =>
    rename_i k os done
    refine ⟨done, h, fun _ _ h => h, hwf, Nat.le_refl _, fun i o S _ hS => ?_⟩
    rw [List.getElem?_eq_none (by rw [Z0p]; omega)] at hS
    cases hS
  | step S h hr ih =>
    rename_i k o os done
    have hpre0 : ∀ (i : Nat) (S' : TFact Any2), (facts done)[i]? = some S' → (facts ((k, S) :: done))[i]? = some S' := fun i S' hi => by
      have hlt := (List.getElem?_eq_some_iff.1 hi).1
      rw [Z1a, List.getElem?_append_left hlt]; exact hi
    obtain ⟨fin, hG, h1, hw, h2, h4⟩ := ih (by simp [hk]) (fun i S' hm => by
      rcases List.mem_cons.1 hm with he | hm
      · cases he
        rw [Z1a, hk, ← Z0p done]
        simp
      · exact hpre0 i S' (hwf i S' hm))
    refine ⟨fin, hG, fun i S' hi => h1 i S' (hpre0 i S' hi), hw, by simp at h2; omega, ?_⟩
    intro i o' S' hi hS
    cases i with
    | zero =>
      simp at hi
      subst hi
      have : (facts fin)[k + 0]? = some S := h1 k S (by rw [Z1a, hk, ← Z0p done]; simp)
      rw [this] at hS
      cases hS
      intro l a w hE hR hl hA hF
      exact h l a w hE hR hl hA (fun j S' hj hd => hF j S' hj (h1 j S' (hpre0 j S' (hwf j S' hd))))
    | succ i =>
      have := h4 i o' S' (by simpa using hi) (by rwa [show k + 1 + i = k + (i + 1) by omega])
      intro l a w hE hR hl hA hF
      rw [show k + (i + 1) = k + 1 + i by omega] at hl hA ⊢
      exact this l a w hE hR hl hA (fun j S' hj hd => hF j S' (by rwa [show k + (i + 1) = k + 1 + i by omega]) hd)


theorem BuildI.det (d : Tmp) {v : Value} (hI : ∀ l w, I l w → I (upd l k) w) (hd : o.dst = some d) (hn : Nat.blt d a0.tmps.size = true) (hg : o.guard = none)
    (h : ∀ l a w, Env a0 D a → I l w → (∀ (i : Nat) (S' : TFact Any2), i ∈ A.getD k [] → (i, S') ∈ done → S'.T a w) → (execOp a.eval o).run P w = .ok (.value v) w)
    (hr : BuildI P ops I a0 D A G (k + 1) os ((k, Proofs.Ytbfgacmfjfbooaa.det d v) :: done)) : BuildI P ops I a0 D A G k (o :: os) done :=
  .step _ (fun l a w hE hR _ _ hF => .inl ⟨Z0d hg, by
    unfold YieldsI
    rw [h l a w hE hR hF]
    exact ⟨hI l w hR, by rw [hd]; exact Z0g (by rw [hE.size]; exact Nat.le_of_ble_eq_true hn)⟩⟩) hr
/-- A call; its law may ask what is done. -/
theorem BuildI.call (d : Tmp) {v : Value} {f : FuncId} {args : Array Value} (hd : o.dst = some d) (hn : Nat.blt d a0.tmps.size = true) (hg : o.guard = none)
    (h : ∀ l a w, Env a0 D a → I l w → (∀ (i : Nat) (S' : TFact Any2), i ∈ A.getD k [] → (i, S') ∈ done → S'.T a w) → (execOp a.eval o).run P w = .ok (.enter f args) w)
    (hc : ∀ l w, I l w → l k = false → (∀ i ∈ A.getD k [], l i = true) → Calls P f args w fun e w' => e = .returned v ∧ I (upd l k) w')
    (hr : BuildI P ops I a0 D A G (k + 1) os ((k, Proofs.Ytbfgacmfjfbooaa.det d v) :: done)) : BuildI P ops I a0 D A G k (o :: os) done :=
  .step _ (fun l a w hE hR hl hA hF => .inl ⟨Z0d hg, by
    unfold YieldsI
    rw [h l a w hE hR hF]
    exact (hc l w hR hl hA).mono fun e w' ⟨he, hI⟩ => ⟨v, he, hI, by rw [hd]; exact Z0g (by rw [hE.size]; exact Nat.le_of_ble_eq_true hn)⟩⟩) hr
end

def YieldsR (P : Program) (R : World → World → Prop) (J : World → Prop) (o : Oper) (T : Act → World → Prop) (a : Act) (w : World) : Prop :=
  match (execOp a.eval o).run P w with
  | .ok (.value v) w' => R w w' ∧ J w' ∧ T (a.put o.dst v) w'
  | .ok .skip w' => R w w' ∧ J w' ∧ T (a.put o.dst undef) w'
  | .ok (.enter f args) w' => Calls P f args w' (fun e w'' => ∃ v, e = .returned v ∧ R w w'' ∧ J w'' ∧ T (a.put o.dst v) w'')
  | _ => False
def opR (P : Program) (ops : Array Oper) (R : World → World → Prop) (J : World → Prop) (o : Oper) (T : Act → World → Prop) (a : Act) (w : World) : Prop :=
  (Region.wanted o (yielded ops a.tmps) = true ∧ YieldsR P R J o T a w) ∨ (Region.wanted o (yielded ops a.tmps) = false ∧ J w ∧ T (a.put o.dst undef) w)
/-- The operations that are left, one behind the other. -/
def tailWp (P : Program) (ops : Array Oper) (Q : Exit → Act → World → Prop) : Nat → Nat → Act → World → Prop
  | 0, _, a, w => Q .normal a w
  | n + 1, i, a, w => wpOp P ops Q i (fun a w => tailWp P ops Q n (i + 1) a w) a w

section
variable {P : Program} {R : World → World → Prop} {ops : Array Oper} {I : (Nat → Bool) → World → Prop} {a0 : Act} {D : List Tmp} {A : List (List Nat)} {Fs : List (TFact R)} {m : Nat} {Q : Exit → Act → World → Prop}

structure RInv (ops : Array Oper) (I : (Nat → Bool) → World → Prop) (a0 : Act) (D : List Tmp) (Fs : List (TFact R)) (m : Nat) (listed : Array Bool) (a : Act) (w : World) : Prop where
  sz : listed.size = ops.size
  env : Env a0 D a
  inv : I (fun i => listed.getD i false) w
  closed : ∀ j o, listed.getD j false = true → ops[j]? = some o → ∀ e ∈ o.after, Region.binds .any e = true → listed.getD e.on false = true
  typed : ∀ i S, listed.getD i false = true → Fs[i]? = some S → S.T a w
  un : ∀ i, m ≤ i → listed.getD i false = false

theorem Z4q {listed : Array Bool} {i : Nat} {o : Oper} (his : i < listed.size) (ho : ops[i]? = some o) (hpre : ∀ e ∈ o.after, Region.binds .any e = true → listed.getD e.on false = true)
    (hc : ∀ j o, listed.getD j false = true → ops[j]? = some o → ∀ e ∈ o.after, Region.binds .any e = true → listed.getD e.on false = true) :
    ∀ j o, (listed.setIfInBounds i true).getD j false = true → ops[j]? = some o → ∀ e ∈ o.after, Region.binds .any e = true → (listed.setIfInBounds i true).getD e.on false = true := by
  intro j oj hj hoj e he hb
  by_cases hji : i = j
  · subst hji
    rw [ho] at hoj
    cases hoj
    by_cases hei : i = e.on
    · rw [← hei]; exact Z19 his _
    · rw [getD_set_ne false hei]; exact hpre e he hb
  · rw [getD_set_ne false hji] at hj
    by_cases hei : i = e.on
    · rw [← hei]; exact Z19 his _
    · rw [getD_set_ne false hei]; exact hc j oj hj hoj e he hb
theorem Z4t (listed : Array Bool) (hs : listed.size = ops.size) (h0 : listed.toList.count false = 0) : Region.ready .any ops listed = [] ∧ ∀ i, i < ops.size → listed.getD i false = true := by
  rw [List.count_eq_zero] at h0
  have hx : ∀ i, i < ops.size → listed.getD i false = true := by
    intro i hi
    have hi' : i < listed.size := by omega
    have : listed[i] ∈ listed.toList := by simp
    have hne : listed[i] ≠ false := fun e => h0 (e ▸ this)
    simpa [hi'] using hne
  refine ⟨?_, hx⟩
  rw [List.eq_nil_iff_forall_not_mem]
  intro j hj
  obtain ⟨h1, o, ho, _⟩ := mem_ready.1 hj
  have hjs : j < ops.size := (Array.getElem?_eq_some_iff.1 ho).1
  have := hx j hjs
  rw [Z0y (by omega) false true] at this
  rw [this] at h1
  cases h1
theorem Z4g (hok : okB ops D A (Fs.map TFact.L) m = true) (listed : Array Bool) (hs : listed.size = ops.size) (fuel : Nat) (hcnt : listed.toList.count false = fuel + 1) : ¬ Region.ready .any ops listed = [] := by
  intro hr
  have : ∀ k, k < ops.size → listed.getD k false = true := by
    intro k
    induction k using Nat.strongRecOn with
    | _ k ihk =>
      intro hk
      cases hl : listed.getD k false with
      | true => rfl
      | false =>
        have ho : ops[k]? = some ops[k] := Array.getElem?_eq_getElem hk
        have : k ∈ Region.ready .any ops listed := mem_ready.2 ⟨by rw [Z0y (by omega) true false]; exact hl, _, ho, fun e he hb => by
          have hlt := (Z65 hok ho).1 e he hb
          exact ihk e.on hlt (by omega)⟩
        rw [hr] at this
        cases this
  have hz : listed.toList.count false = 0 := by
    rw [List.count_eq_zero]
    intro hmem
    obtain ⟨i, hi, he⟩ := List.getElem_of_mem hmem
    have hi' : i < listed.size := by simpa using hi
    have := this i (by omega)
    simp [hi'] at this
    simp [this] at he
  omega

theorem tail_any (hok : okB ops D A (Fs.map TFact.L) m = true) (hm : ∀ i, m ≤ i → i < ops.size → ∀ j, j < i → j ∈ A.getD i []) :
    ∀ (fuel i : Nat) (listed : Array Bool) (a : Act) (w : World), m ≤ i → i ≤ ops.size → listed.size = ops.size → (∀ j, j < i → listed.getD j false = true) → (∀ j, i ≤ j → listed.getD j false = false) →
      (∀ j o, listed.getD j false = true → ops[j]? = some o → ∀ e ∈ o.after, Region.binds .any e = true → listed.getD e.on false = true) →
      listed.toList.count false = fuel → tailWp P ops Q (ops.size - i) i a w → wpAny P .any ops Q fuel listed a w := by
  intro fuel
  induction fuel with
  | zero =>
    intro i listed a w hmi hi hs h1 h2 hc h0 ht
    obtain ⟨hr, hx⟩ := Z4t (ops := ops) listed hs h0
    have : i = ops.size := by
      by_cases h : i < ops.size
      · have := hx i h
        rw [h2 i (Nat.le_refl _)] at this
        cases this
      · omega
    subst this
    rw [Nat.sub_self] at ht
    exact ⟨hr, ht⟩
  | succ fuel ih =>
    intro i listed a w hmi hi hs h1 h2 hc hcnt ht
    refine ⟨fun hr => (Z4g hok listed hs fuel hcnt hr).elim, fun k hk => ?_⟩
    obtain ⟨hun, o, ho, hpre⟩ := mem_ready.1 hk
    have hks : k < ops.size := (Array.getElem?_eq_some_iff.1 ho).1
    have hanc := Z20 hok hc hs k o ho hpre
    have hun' : listed.getD k false = false := by rw [Z0y (by omega) false true]; exact hun
    have hik : i ≤ k := by
      by_cases h : k < i
      · rw [h1 k h] at hun'; cases hun'
      · omega
    have hki : k = i := by
      by_cases h : i < k
      · have := hanc i (hm k (by omega) hks i h)
        rw [h2 i (Nat.le_refl _)] at this
        cases this
      · omega
    subst hki
    rw [show ops.size - k = (ops.size - (k + 1)) + 1 by omega] at ht
    refine wpOp_mono (fun a' w' hq => ?_) ht
    refine ih (k + 1) _ a' w' (by omega) (by omega) (by simpa using hs) (fun j hj => ?_) (fun j hj => ?_) (Z4q (by omega) ho hpre hc) (count_set (by omega) hun _ hcnt) hq
    · by_cases h : k = j
      · subst h; exact Z19 (by omega) _
      · rw [getD_set_ne false h]; exact h1 j (by omega)
    · have : k ≠ j := by omega
      rw [getD_set_ne false this]
      exact h2 j (by omega)

inductive BuildR (P : Program) (R : World → World → Prop) (ops : Array Oper) (I : (Nat → Bool) → World → Prop) (a0 : Act) (D : List Tmp) (A : List (List Nat)) (G : List (Nat × TFact R) → Prop) : Nat → List Oper → List (Nat × TFact R) → Prop
  | stop {k : Nat} {os : List Oper} {done : List (Nat × TFact R)} (h : G done) : BuildR P R ops I a0 D A G k os done
  | step {k : Nat} {o : Oper} {os : List Oper} {done : List (Nat × TFact R)} (S : TFact R) (h : ∀ l a w, Env a0 D a → I l w → l k = false → (∀ i ∈ A.getD k [], l i = true) → (∀ (i : Nat) (S' : TFact R), i ∈ A.getD k [] → (i, S') ∈ done → S'.T a w) → opR P ops R (I (upd l k)) o S.T a w)
      (hr : BuildR P R ops I a0 D A G (k + 1) os ((k, S) :: done)) : BuildR P R ops I a0 D A G k (o :: os) done

variable {G : List (Nat × TFact R) → Prop} {k : Nat} {o : Oper} {os : List Oper} {done : List (Nat × TFact R)} {d : Tmp} {v : Value}
theorem BuildR.use (hb : BuildR P R ops I a0 D A G k os done) (hk : k = done.length) (hwf : ∀ (i : Nat) (S : TFact R), (i, S) ∈ done → (facts done)[i]? = some S) : ∃ fin : List (Nat × TFact R), G fin ∧ (∀ (i : Nat) (S : TFact R), (facts done)[i]? = some S → (facts fin)[i]? = some S) ∧
    (∀ (i : Nat) (S : TFact R), (i, S) ∈ fin → (facts fin)[i]? = some S) ∧ done.length ≤ fin.length ∧
    ∀ (i : Nat) (o : Oper) (S : TFact R), os[i]? = some o → (facts fin)[k + i]? = some S → ∀ l a w, Env a0 D a → I l w → l (k + i) = false → (∀ j ∈ A.getD (k + i) [], l j = true) → (∀ (j : Nat) (S' : TFact R), j ∈ A.getD (k + i) [] → (facts fin)[j]? = some S' → S'.T a w) → opR P ops R (I (upd l (k + i))) o S.T a w := by
  induction hb with
  | stop h =>
    rename_i k os done
    refine ⟨done, h, fun _ _ h => h, hwf, Nat.le_refl _, fun i o S _ hS => ?_⟩
    rw [List.getElem?_eq_none (by rw [Z0p]; omega)] at hS
    cases hS
  | step S h hr ih =>
    rename_i k o os done
    have hpre0 : ∀ (i : Nat) (S' : TFact R), (facts done)[i]? = some S' → (facts ((k, S) :: done))[i]? = some S' := fun i S' hi => by
      have hlt := (List.getElem?_eq_some_iff.1 hi).1
      rw [Z1a, List.getElem?_append_left hlt]; exact hi
    obtain ⟨fin, hG, h1, hw, h2, h4⟩ := ih (by simp [hk]) (fun i S' hm => by
      rcases List.mem_cons.1 hm with he | hm
      · cases he
        rw [Z1a, hk, ← Z0p done]
        simp
      · exact hpre0 i S' (hwf i S' hm))
    refine ⟨fin, hG, fun i S' hi => h1 i S' (hpre0 i S' hi), hw, by simp at h2; omega, ?_⟩
    intro i o' S' hi hS
    cases i with
    | zero =>
      simp at hi
      subst hi
      have : (facts fin)[k + 0]? = some S := h1 k S (by rw [Z1a, hk, ← Z0p done]; simp)
      rw [this] at hS
      cases hS
      intro l a w hE hR hl hA hF
      exact h l a w hE hR hl hA (fun j S' hj hd => hF j S' hj (h1 j S' (hpre0 j S' (hwf j S' hd))))
    | succ i =>
      have := h4 i o' S' (by simpa using hi) (by rwa [show k + 1 + i = k + (i + 1) by omega])
      intro l a w hE hR hl hA hF
      rw [show k + (i + 1) = k + 1 + i by omega] at hl hA ⊢
      exact this l a w hE hR hl hA (fun j S' hj hd => hF j S' (by rwa [show k + (i + 1) = k + 1 + i by omega]) hd)



/-- The operations that are left: their weakest conditions, nested. -/
def tailOps (P : Program) (Q : Exit → Act → World → Prop) : List Oper → Act → World → Prop
  | [], a, w => Q .normal a w
  | o :: os, a, w => o.wp P a w (fun a w => tailOps P Q os a w) Q
theorem tailWp_of (l : List Oper) : ∀ (os : List Oper) (m : Nat), l.drop m = os → (os.all fun o => o.guard.isNone) = true → ∀ a w, tailOps P Q os a w → tailWp P l.toArray Q os.length m a w := by
  intro os
  induction os with
  | nil => intro m _ _ a w h; exact h
  | cons o os ih =>
    intro m hd hg a w h
    have ho : l[m]? = some o := by
      have := congrArg (fun x => x[0]?) hd
      simpa using this
    have hd' : l.drop (m + 1) = os := by
      rw [← List.drop_drop, hd]
      rfl
    simp only [List.all_cons, Bool.and_eq_true, Option.isNone_iff_eq_none] at hg
    show wpOp P l.toArray Q m _ a w
    unfold wpOp
    simp only [List.getElem?_toArray, ho]
    rw [if_pos (Z0d hg.1)]
    refine .inl ?_
    refine Oper.wp_mono ?_ h
    intro a' w' h'
    exact ih (m + 1) hd' (by simpa using hg.2) a' w' h'

theorem BuildR.det (d : Tmp) {v : Value} (hrr : ∀ w, R w w) (hI : ∀ l w, I l w → I (upd l k) w) (hd : o.dst = some d) (hn : Nat.blt d a0.tmps.size = true) (hg : o.guard = none)
    (h : ∀ l a w, Env a0 D a → I l w → (∀ (i : Nat) (S' : TFact R), i ∈ A.getD k [] → (i, S') ∈ done → S'.T a w) → (execOp a.eval o).run P w = .ok (.value v) w)
    (hr : BuildR P R ops I a0 D A G (k + 1) os ((k, Proofs.Ytbfgacmfjfbooaa.det d v) :: done)) : BuildR P R ops I a0 D A G k (o :: os) done :=
  .step _ (fun l a w hE hR _ _ hF => .inl ⟨Z0d hg, by
    unfold YieldsR
    rw [h l a w hE hR hF]
    exact ⟨hrr w, hI l w hR, by rw [hd]; exact Z0g (by rw [hE.size]; exact Nat.le_of_ble_eq_true hn)⟩⟩) hr
/-- A guarded one that is wanted. -/
theorem BuildR.detg (d : Tmp) {v : Value} {j dj : Nat} {b : Bool} (hrr : ∀ w, R w w) (hI : ∀ l w, I l w → I (upd l k) w) (hd : o.dst = some d) (hn : Nat.blt d a0.tmps.size = true) (hg : o.guard = some (j, b)) (hj : (ops[j]?).bind (·.dst) = some dj)
    (h : ∀ l a w, Env a0 D a → I l w → (∀ (i : Nat) (S' : TFact R), i ∈ A.getD k [] → (i, S') ∈ done → S'.T a w) → a.eval (.tmp dj) = .bool b ∧ (execOp a.eval o).run P w = .ok (.value v) w)
    (hr : BuildR P R ops I a0 D A G (k + 1) os ((k, Proofs.Ytbfgacmfjfbooaa.det d v) :: done)) : BuildR P R ops I a0 D A G k (o :: os) done :=
  .step _ (fun l a w hE hR _ _ hF => .inl ⟨(Z14 hg hj (h l a w hE hR hF).1).trans (by simp), by
    unfold YieldsR
    rw [(h l a w hE hR hF).2]
    exact ⟨hrr w, hI l w hR, by rw [hd]; exact Z0g (by rw [hE.size]; exact Nat.le_of_ble_eq_true hn)⟩⟩) hr
/-- A guarded one that is not. -/
theorem BuildR.skip (d : Tmp) {j dj : Nat} {b : Bool} (hI : ∀ l w, I l w → I (upd l k) w) (hd : o.dst = some d) (hn : Nat.blt d a0.tmps.size = true) (hg : o.guard = some (j, b)) (hj : (ops[j]?).bind (·.dst) = some dj)
    (h : ∀ l a w, Env a0 D a → I l w → (∀ (i : Nat) (S' : TFact R), i ∈ A.getD k [] → (i, S') ∈ done → S'.T a w) → a.eval (.tmp dj) = .bool (!b))
    (hr : BuildR P R ops I a0 D A G (k + 1) os ((k, Proofs.Ytbfgacmfjfbooaa.det d undef) :: done)) : BuildR P R ops I a0 D A G k (o :: os) done :=
  .step _ (fun l a w hE hR _ _ hF => .inr ⟨(Z14 hg hj (h l a w hE hR hF)).trans (by simp), hI l w hR, by rw [hd]; exact Z0g (by rw [hE.size]; exact Nat.le_of_ble_eq_true hn)⟩) hr
/-- A call; its law may ask what is done. -/
theorem BuildR.call (d : Tmp) {v : Value} {f : FuncId} {args : Array Value} (hd : o.dst = some d) (hn : Nat.blt d a0.tmps.size = true) (hg : o.guard = none)
    (h : ∀ l a w, Env a0 D a → I l w → (∀ (i : Nat) (S' : TFact R), i ∈ A.getD k [] → (i, S') ∈ done → S'.T a w) → (execOp a.eval o).run P w = .ok (.enter f args) w)
    (hc : ∀ l w, I l w → l k = false → (∀ i ∈ A.getD k [], l i = true) → Calls P f args w fun e w' => e = .returned v ∧ R w w' ∧ I (upd l k) w')
    (hr : BuildR P R ops I a0 D A G (k + 1) os ((k, Proofs.Ytbfgacmfjfbooaa.det d v) :: done)) : BuildR P R ops I a0 D A G k (o :: os) done :=
  .step _ (fun l a w hE hR hl hA hF => .inl ⟨Z0d hg, by
    unfold YieldsR
    rw [h l a w hE hR hF]
    exact (hc l w hR hl hA).mono fun e w' ⟨he, hRw, hI⟩ => ⟨v, he, hRw, hI, by rw [hd]; exact Z0g (by rw [hE.size]; exact Nat.le_of_ble_eq_true hn)⟩⟩) hr
/-- One that makes something of its own. -/
theorem BuildR.new (d : Tmp) (φ : Value → World → Prop) (hφ : ∀ v w w', R w w' → φ v w → φ v w') (hd : o.dst = some d) (hn : Nat.blt d a0.tmps.size = true) (hg : o.guard = none)
    (h : ∀ l a w, Env a0 D a → I l w → l k = false → (∀ i ∈ A.getD k [], l i = true) → (∀ (i : Nat) (S' : TFact R), i ∈ A.getD k [] → (i, S') ∈ done → S'.T a w) → ∃ v w', (execOp a.eval o).run P w = .ok (.value v) w' ∧ R w w' ∧ I (upd l k) w' ∧ φ v w')
    (hr : BuildR P R ops I a0 D A G (k + 1) os ((k, fresh d φ hφ) :: done)) : BuildR P R ops I a0 D A G k (o :: os) done :=
  .step _ (fun l a w hE hR hl hA hF => by
    obtain ⟨v, w', h1, h2, h3, h4⟩ := h l a w hE hR hl hA hF
    refine .inl ⟨Z0d hg, ?_⟩
    unfold YieldsR
    rw [h1]
    exact ⟨h2, h3, by rw [hd]; show φ ((a.put (some d) v).eval (.tmp d)) w'; rw [Z0g (by rw [hE.size]; exact Nat.le_of_ble_eq_true hn)]; exact h4⟩) hr
theorem BuildR.callnew (d : Tmp) (φ : Value → World → Prop) (hφ : ∀ v w w', R w w' → φ v w → φ v w') {f : FuncId} {args : Array Value} (hd : o.dst = some d) (hn : Nat.blt d a0.tmps.size = true) (hg : o.guard = none)
    (h : ∀ l a w, Env a0 D a → I l w → (∀ (i : Nat) (S' : TFact R), i ∈ A.getD k [] → (i, S') ∈ done → S'.T a w) → (execOp a.eval o).run P w = .ok (.enter f args) w)
    (hc : ∀ l w, I l w → l k = false → (∀ i ∈ A.getD k [], l i = true) → Calls P f args w fun e w' => ∃ v, e = .returned v ∧ R w w' ∧ I (upd l k) w' ∧ φ v w')
    (hr : BuildR P R ops I a0 D A G (k + 1) os ((k, fresh d φ hφ) :: done)) : BuildR P R ops I a0 D A G k (o :: os) done :=
  .step _ (fun l a w hE hR hl hA hF => .inl ⟨Z0d hg, by
    unfold YieldsR
    rw [h l a w hE hR hF]
    exact (hc l w hR hl hA).mono fun e w' ⟨v, he, hRw, hI, hv⟩ => ⟨v, he, hRw, hI, by rw [hd]; show φ ((a.put (some d) v).eval (.tmp d)) w'; rw [Z0g (by rw [hE.size]; exact Nat.le_of_ble_eq_true hn)]; exact hv⟩⟩) hr
end

section
variable {P : Program} {R : World → World → Prop} {ops : Array Oper} {w0 : World} {a0 : Act} {D : List Tmp} {A : List (List Nat)} {G : List (Nat × TFact R) → Prop} {k : Nat} {o : Oper} {os : List Oper} {done : List (Nat × TFact R)}
theorem Z3e {a : Act} {j dj : Nat} {b : Bool} (hg : o.guard = some (j, b)) (hj : (ops[j]?).bind (·.dst) = some dj) (he : a.eval (.tmp dj) = undef) : Region.wanted o (yielded ops a.tmps) = false := by
  have h : yielded ops a.tmps j = none := by
    unfold yielded
    rw [hj]
    rw [Z1b, Array.getD_eq_getD_getElem?] at he
    cases hx : a.tmps[dj]? with
    | none => simp [hx]
    | some x =>
      rw [hx] at he
      have he : x = undef := he
      subst he
      simp [hx]
      rfl
  unfold Region.wanted
  rw [hg]
  simp [h]
end
section
variable {R : World → World → Prop}
variable {P : Program} {ops : Array Oper} {w0 : World} {a0 : Act} {D : List Tmp} {A : List (List Nat)}
variable {o : Oper}
variable {G : List (Nat × TFact R) → Prop} {k : Nat} {os : List Oper} {done : List (Nat × TFact R)}
end
end Go.Proofs.Ytbfgacmfjfbooaa
