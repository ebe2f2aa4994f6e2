/- Words for memory: a block known whole; only one block (and what is new) has turned. Plain lemmas over worlds, no program in sight. -/
import Derived.Test.YtakkhglbdljfiaaGreatDoorRows
import Derived.WalkKit
import Derived.WalkSpells
import Derived.WalkLawsBesides
import Derived.Lib.Hide
import Derived.Deep.QuietTactic
import Derived.BigQuiet
import Derived.Deep.DeepCutAuto
import Derived.Deep.LoopGhost
import Derived.Still
namespace Go.Proofs.YtakkhglbdljfiaaGreatDoor
set_option linter.unusedVariables false
set_option linter.unusedSimpArgs false
open Go.RowKit

/-- Block g is just the cells cs of type t, none frozen. -/
def Blk (w : World) (g : Nat) (t : TypeId) (cs : Array Value) : Prop := w.heap[g]? = some (.cells cs t (0, 0))

section
variable {w w' : World} {g : Nat} {t : TypeId} {cs : Array Value}
theorem Blk.lt (h : Blk w g t cs) : g < w.heap.size := by
  rcases Nat.lt_or_ge g w.heap.size with hlt | hge
  · exact hlt
  · unfold Blk at h; rw [Array.getElem?_eq_none hge] at h; cases h
theorem Blk.cell (h : Blk w g t cs) (i : Nat) : w.cell? ⟨g, i, none⟩ = cs[i]? := cell_of_row w g i cs t (0, 0) h
theorem Blk.frozen (h : Blk w g t cs) (i : Nat) : w.frozen? ⟨g, i, none⟩ = false := by
  unfold Blk at h
  simp [World.frozen?, h]
theorem Blk.new (w : World) (t : TypeId) (cs : Array Value) : Blk (w.alloc (.cells cs t)) w.heap.size t cs := heap_alloc_new w _
theorem blk_new {w : World} {t : TypeId} {cs : Array Value} {g : Nat} (hg : g = w.heap.size) : Blk (w.alloc (.cells cs t)) g t cs := by subst hg; exact Blk.new _ _ _
theorem Blk.drew (h : Blk w g t cs) : Blk w.drew g t cs := h
theorem Blk.drewN (h : Blk w g t cs) (n : Nat) : Blk (w.drewN n) g t cs := h
theorem Blk.alloc (h : Blk w g t cs) (o : Obj) : Blk (w.alloc o) g t cs := (Below.heap_alloc w o g h.lt).trans h
theorem Blk.set_ (h : Blk w g t cs) (i : Nat) (u : Value) : Blk (w.setCell ⟨g, i, none⟩ u) g t (cs.setIfInBounds i u) := by
  unfold Blk at h ⊢
  simp [World.setCell, Array.getElem?_modify, h]
theorem Blk.far (h : Blk w g t cs) {p : Addr} (hp : g ≠ p.block) (u : Value) : Blk (w.setCell p u) g t cs := (Below.heap_setCell w p u g hp).trans h
theorem Blk.below {B : Nat} (h : Blk w g t cs) (hb : Below B w w') (hg : g < B) : Blk w' g t cs := (hb.block g hg).trans h
theorem Blk.grown {row : Option Nat} (h : Blk w g t cs) (hb : w.grownBy w' row) (hg : some g ≠ row) : Blk w' g t cs := (hb.block g h.lt hg).trans h
end

/-- Behind a deed on block g: it holds cs; of what was there nothing else has turned. -/
structure Upd (w : World) (g : Nat) (t : TypeId) (cs : Array Value) (w' : World) : Prop where
  blk : Blk w' g t cs
  grown : w.grownBy w' (some g)

section
variable {a w w' : World} {g : Nat} {t : TypeId} {cs cs' : Array Value} {row : Option Nat}
theorem Z6w {a b c : World} {row : Option Nat} (h : a.grownBy b row) (k : b.grownBy c row) : a.grownBy c row :=
  ⟨k.os.trans h.os, k.tape.trans h.tape, k.output.trans h.output, Nat.le_trans h.size k.size, fun i hi hne => (k.block i (Nat.lt_of_lt_of_le hi h.size) hne).trans (h.block i hi hne)⟩
theorem Z6n (h : a.grownBy w row) : a.grownBy w.drew row := ⟨h.os, h.tape, h.output, h.size, h.block⟩
theorem Z3k (h : a.grownBy w row) (o : Obj) : a.grownBy (w.alloc o) row :=
  ⟨h.os, h.tape, h.output, Nat.le_trans h.size (by simp), fun i hi hne => (Below.heap_alloc w o i (Nat.lt_of_lt_of_le hi h.size)).trans (h.block i hi hne)⟩
theorem Z1c {g : Nat} (h : a.grownBy w (some g)) {p : Addr} (hp : p.block = g ∨ a.heap.size ≤ p.block) (u : Value) : a.grownBy (w.setCell p u) (some g) :=
  ⟨h.os, h.tape, h.output, by simpa [World.setCell] using h.size, fun i hi hne => (Below.heap_setCell w p u i (by
    rintro rfl
    rcases hp with hp | hp
    · exact hne (by rw [hp])
    · omega)).trans (h.block i hi hne)⟩
theorem Z34 (h : Below a.heap.size a w) (row : Option Nat) : a.grownBy w row := ⟨h.os, h.tape, h.output, h.size, fun i hi _ => h.block i hi⟩

theorem Upd.refl (h : Blk w g t cs) : Upd w g t cs w := ⟨h, World.grownBy.refl w _⟩
theorem Upd.set (h : Upd a g t cs w) (i : Nat) (u : Value) : Upd a g t (cs.setIfInBounds i u) (w.setCell ⟨g, i, none⟩ u) :=
  ⟨h.blk.set_ i u, Z1c h.grown (.inl rfl) u⟩
theorem Upd.drew (h : Upd a g t cs w) : Upd a g t cs w.drew := ⟨h.blk, Z6n h.grown⟩
theorem Upd.trans {b : World} (h : Upd a g t cs b) (k : Upd b g t cs' w) : Upd a g t cs' w := ⟨k.blk, Z6w h.grown k.grown⟩
/-- The deed was on a block of the call's own. -/
theorem Upd.below {B : Nat} {A : World} (h : Upd w g t cs w') (hA : Below B A w) (hg : B ≤ g) (hB : B ≤ w.heap.size) : Below B A w' :=
  hA.grown h.grown hB (fun k e => by injection e with e; omega)
end

theorem Z09 {B : Nat} {a w : World} (h : Below B a w) (n : Nat) : Below B a (w.drewN n) := ⟨h.os, h.tape, h.output, h.size, h.block⟩

theorem Z0e {B : Nat} {a w : World} {p : Addr} {u : Value} (hp : B ≤ p.block) (h : Below B a w) : Below B a (w.setCell p u) := h.setCell hp u
theorem Z0f {B : Nat} {a w : World} {o : Obj} (hB : B ≤ w.heap.size) (h : Below B a w) : Below B a (w.alloc o) := h.alloc hB o
theorem bcell {W w1 : World} (hb : Below W.heap.size W w1) : (∀ b o, b < W.heap.size → w1.cell? ⟨b, o, none⟩ = W.cell? ⟨b, o, none⟩) ∧ (∀ b o, b < W.heap.size → w1.frozen? ⟨b, o, none⟩ = W.frozen? ⟨b, o, none⟩) :=
  ⟨fun b o h => hb.cell (p := ⟨b, o, none⟩) h, fun b o h => hb.frozen (p := ⟨b, o, none⟩) h⟩
theorem Z3j {k : IntKind} {a b : Int} (h : a = b) : Ending.returned (.int k a) = .returned (.int k b) := by rw [h]
theorem Z13 {a b : Bool} (h : a = b) : Ending.returned (.bool a) = .returned (.bool b) := by rw [h]
end Go.Proofs.YtakkhglbdljfiaaGreatDoor

/- A region that draws its order, by facts: each operation leaves a fact of its slot and of the world, that no later operation undoes; whatever order is drawn, behind the region all facts hold. No function of the program in sight. -/
namespace Go.Proofs.YtakkhglbdljfiaaGreatDoor
set_option linter.unusedVariables false
set_option linter.unusedSimpArgs false
open Go.RowKit

/-- What an operation leaves: a fact of the slots L and of the world, kept by R. -/
structure TFact (R : World → World → Prop) where
  L : List Tmp
  T : Act → World → Prop
  loc : ∀ a a' w, (∀ t ∈ L, a.tmps[t]? = a'.tmps[t]?) → T a w → T a' w
  mono : ∀ a w w', R w w' → T a w → T a w'

structure Env (a0 : Act) (D : List Tmp) (a : Act) : Prop where
  size : a.tmps.size = a0.tmps.size
  defers : a.defers = a0.defers
  keep : ∀ t, t ∉ D → a.tmps[t]? = a0.tmps[t]?

def Yields (P : Program) (R : World → World → Prop) (o : Oper) (T : Act → World → Prop) (a : Act) (w : World) : Prop :=
  match (execOp a.eval o).run P w with
  | .ok (.value v) w' => R w w' ∧ T (a.put o.dst v) w'
  | .ok .skip w' => R w w' ∧ T (a.put o.dst undef) w'
  | .ok (.enter f args) w' => R w w' ∧ Calls P f args w' (fun e w'' => ∃ v, e = .returned v ∧ R w' w'' ∧ T (a.put o.dst v) w'')
  | _ => False
def opT (P : Program) (ops : Array Oper) (R : World → World → Prop) (o : Oper) (T : Act → World → Prop) (a : Act) (w : World) : Prop :=
  (Region.wanted o (yielded ops a.tmps) = true ∧ Yields P R o T a w) ∨ (Region.wanted o (yielded ops a.tmps) = false ∧ T (a.put o.dst undef) w)

/-- The check: edges go back; A lists ancestors; slots that facts read are their own operation's or an ancestor's. -/
def okB (ops : Array Oper) (D : List Tmp) (A : List (List Nat)) (Ls : List (List Tmp)) (m : Nat) : Bool :=
  (List.range ops.size).all fun k => match ops[k]? with
    | none => false
    | some o =>
      o.after.all (fun e => !Region.binds .any e || decide (e.on < k)) &&
      (A.getD k []).all (fun i => o.after.any fun e => Region.binds .any e && (e.on == i || (A.getD e.on []).contains i)) &&
      (decide (m ≤ k) || match o.dst with
        | none => true
        | some d => D.contains d && (List.range Ls.length).all fun i => i == k || (A.getD i []).contains k || !(Ls.getD i []).contains d)

section
variable {P : Program} {ops : Array Oper} {R : World → World → Prop} {w0 : World} {a0 : Act} {D : List Tmp} {A : List (List Nat)} {Fs : List (TFact R)} {m : Nat} {Q : Exit → Act → World → Prop}

theorem Z4j (h : okB ops D A (Fs.map TFact.L) m = true) {k : Nat} {o : Oper} (ho : ops[k]? = some o) :
    (∀ e ∈ o.after, Region.binds .any e = true → e.on < k) ∧
    (∀ i ∈ A.getD k [], ∃ e ∈ o.after, Region.binds .any e = true ∧ (e.on = i ∨ i ∈ A.getD e.on [])) ∧
    (k < m → ∀ d, o.dst = some d → d ∈ D ∧ ∀ i S, Fs[i]? = some S → i ≠ k → k ∉ A.getD i [] → d ∉ S.L) := by
  have hk : k < ops.size := (Array.getElem?_eq_some_iff.1 ho).1
  unfold okB at h
  rw [List.all_eq_true] at h
  have h1 := h k (List.mem_range.2 hk)
  simp only [ho, Bool.and_eq_true] at h1
  obtain ⟨⟨h1, h2⟩, h3⟩ := h1
  refine ⟨fun e he hb => ?_, fun i hi => ?_, fun hm d hd => ?_⟩
  · rw [Array.all_eq_true_iff_forall_mem] at h1
    have := h1 e he
    simpa [hb] using this
  · rw [List.all_eq_true] at h2
    have := h2 i hi
    rw [← Array.any_toList, List.any_eq_true] at this
    obtain ⟨e, he, hx⟩ := this
    rw [Array.mem_toList_iff] at he
    simp only [Bool.and_eq_true, Bool.or_eq_true, beq_iff_eq, List.contains_iff_mem] at hx
    exact ⟨e, he, hx.1, hx.2⟩
  · have hm' : decide (m ≤ k) = false := by simp; omega
    simp only [hm', hd, Bool.false_or, Bool.and_eq_true, List.contains_iff_mem] at h3
    refine ⟨h3.1, fun i S hS hne hna hmem => ?_⟩
    have h4 := h3.2
    rw [List.all_eq_true] at h4
    have hil : i < Fs.length := (List.getElem?_eq_some_iff.1 hS).1
    have := h4 i (List.mem_range.2 (by simpa using hil))
    simp only [Bool.or_eq_true, beq_iff_eq, List.contains_iff_mem, Bool.not_eq_true'] at this
    rcases this with (this | this) | this
    · exact hne this
    · exact hna this
    · have e : (Fs.map TFact.L).getD i [] = S.L := by simp [List.getD, hS]
      rw [e] at this
      have : S.L.contains d = true := by simpa using hmem
      simp_all

structure TInv (ops : Array Oper) (R : World → World → Prop) (w0 : World) (a0 : Act) (D : List Tmp) (Fs : List (TFact R)) (m : Nat) (listed : Array Bool) (a : Act) (w : World) : Prop where
  sz : listed.size = ops.size
  env : Env a0 D a
  r : R w0 w
  closed : ∀ j o, listed.getD j false = true → ops[j]? = some o → ∀ e ∈ o.after, Region.binds .any e = true → listed.getD e.on false = true
  typed : ∀ i S, listed.getD i false = true → Fs[i]? = some S → S.T a w
  un : ∀ i, m ≤ i → listed.getD i false = false

theorem Z17 (hok : okB ops D A (Fs.map TFact.L) m = true) {listed : Array Bool} (hc : ∀ j o, listed.getD j false = true → ops[j]? = some o → ∀ e ∈ o.after, Region.binds .any e = true → listed.getD e.on false = true) (hs : listed.size = ops.size) :
    ∀ k o, ops[k]? = some o → (∀ e ∈ o.after, Region.binds .any e = true → listed.getD e.on false = true) → ∀ i ∈ A.getD k [], listed.getD i false = true := by
  intro k
  induction k using Nat.strongRecOn with
  | _ k ih =>
    intro o ho hp i hi
    obtain ⟨h1, h2, _⟩ := Z4j hok ho
    obtain ⟨e, he, hb, hx⟩ := h2 i hi
    rcases hx with rfl | hx
    · exact hp e he hb
    · have hl := hp e he hb
      have hlt := h1 e he hb
      have hk : k < ops.size := (Array.getElem?_eq_some_iff.1 ho).1
      have ho' : ops[e.on]? = some ops[e.on] := Array.getElem?_eq_getElem (by omega)
      exact ih e.on hlt _ ho' (hc e.on _ hl ho') i hx

theorem Z14 {listed : Array Bool} {i : Nat} (h : i < listed.size) (b : Bool) : (listed.setIfInBounds i true).getD i b = true := by
  simp [h]
theorem Z0k {listed : Array Bool} {i : Nat} (h : i < listed.size) (b c : Bool) : listed.getD i b = listed.getD i c := by
  simp [h]

theorem count_set {listed : Array Bool} {i : Nat} (h : i < listed.size) (hf : listed.getD i true = false) (n : Nat) (hn : listed.toList.count false = n + 1) : (listed.setIfInBounds i true).toList.count false = n := by
  have he : listed.toList[i]'(by simpa using h) = false := by simpa [h] using hf
  rw [Array.toList_setIfInBounds, List.count_set (by simpa using h), he]
  simp only [beq_self_eq_true, if_true, hn]
  simp

theorem typed_any (hrt : ∀ x y z, R x y → R y z → R x z) (hok : okB ops D A (Fs.map TFact.L) m = true) (hlen : Fs.length = m) (hm : m = ops.size ∨ (m + 1 = ops.size ∧ ∀ j, j < m → j ∈ A.getD m []))
    (hstep : ∀ (k : Nat) (o : Oper) (S : TFact R), ops[k]? = some o → Fs[k]? = some S → ∀ a w, Env a0 D a → R w0 w → (∀ (i : Nat) (S' : TFact R), i ∈ A.getD k [] → Fs[i]? = some S' → S'.T a w) → opT P ops R o S.T a w)
    (hend : ∀ a w, Env a0 D a → R w0 w → (∀ (i : Nat) (S : TFact R), Fs[i]? = some S → S.T a w) → if m = ops.size then Q .normal a w else wpOp P ops Q m (fun a w => Q .normal a w) a w) (hrr : ∀ x, R x x) :
    ∀ (fuel : Nat) (listed : Array Bool) (a : Act) (w : World), TInv ops R w0 a0 D Fs m listed a w → listed.toList.count false = fuel → wpAny P .any ops Q fuel listed a w := by
  intro fuel
  have hall : ∀ (listed : Array Bool), listed.size = ops.size → listed.toList.count false = 0 → Region.ready .any ops listed = [] ∧ ∀ i, i < ops.size → listed.getD i false = true := by
    intro listed hs h0
    rw [List.count_eq_zero] at h0
    have hx : ∀ i, i < ops.size → listed.getD i false = true := by
      intro i hi
      have hi' : i < listed.size := by omega
      have : listed[i] ∈ listed.toList := by simp
      have hne : listed[i] ≠ false := fun e => h0 (e ▸ this)
      simpa [hi'] using hne
    refine ⟨?_, hx⟩
    rw [List.eq_nil_iff_forall_not_mem]
    intro j hj
    obtain ⟨h1, o, ho, _⟩ := mem_ready.1 hj
    have hjs : j < ops.size := (Array.getElem?_eq_some_iff.1 ho).1
    have := hx j hjs
    rw [Z0k (by omega) false true] at this
    rw [this] at h1
    cases h1
  induction fuel with
  | zero =>
    intro listed a w hI h0
    obtain ⟨hr, hx⟩ := hall listed hI.sz h0
    refine ⟨hr, ?_⟩
    rcases hm with hm | ⟨hm, _⟩
    · have := hend a w hI.env hI.r (fun i S hS => hI.typed i S (hx i (by have := (List.getElem?_eq_some_iff.1 hS).1; omega)) hS)
      rwa [if_pos hm] at this
    · have h1 := hx m (by omega)
      have h2 := hI.un m (Nat.le_refl _)
      rw [h1] at h2
      cases h2
  | succ fuel ih =>
    intro listed a w hI hcnt
    refine ⟨fun hr => ?_, fun i hi => ?_⟩
    · exfalso
      have : ∀ k, k < ops.size → listed.getD k false = true := by
        intro k
        induction k using Nat.strongRecOn with
        | _ k ihk =>
          intro hk
          cases hl : listed.getD k false with
          | true => rfl
          | false =>
            have ho : ops[k]? = some ops[k] := Array.getElem?_eq_getElem hk
            have : k ∈ Region.ready .any ops listed := mem_ready.2 ⟨by rw [Z0k (by have := hI.sz; omega) true false]; exact hl, _, ho, fun e he hb => by
              have hlt := (Z4j hok ho).1 e he hb
              exact ihk e.on hlt (by omega)⟩
            rw [hr] at this
            cases this
      have hz : listed.toList.count false = 0 := by
        rw [List.count_eq_zero]
        intro hmem
        obtain ⟨i, hi, he⟩ := List.getElem_of_mem hmem
        have hi' : i < listed.size := by simpa using hi
        have := this i (by have := hI.sz; omega)
        simp [hi'] at this
        simp [this] at he
      omega
    · obtain ⟨hun, o, ho, hpre⟩ := mem_ready.1 hi
      have hio : i < ops.size := (Array.getElem?_eq_some_iff.1 ho).1
      have his : i < listed.size := by have := hI.sz; omega
      have hanc := Z17 hok hI.closed hI.sz i o ho hpre
      by_cases him : i < m
      · obtain ⟨S, hS⟩ : ∃ S, Fs[i]? = some S := ⟨_, List.getElem?_eq_getElem (by omega)⟩
        have hst := hstep i o S ho hS a w hI.env hI.r (fun j S' hj hS' => hI.typed j S' (hanc j hj) hS')
        -- the state behind the operation
        have hnext : ∀ v w', R w w' → S.T (a.put o.dst v) w' → TInv ops R w0 a0 D Fs m (listed.setIfInBounds i true) (a.put o.dst v) w' := by
          intro v w' hR hT
          obtain ⟨_, _, h3⟩ := Z4j hok ho
          have h3 := h3 him
          refine ⟨by simpa using hI.sz, ⟨?_, ?_, ?_⟩, hrt _ _ _ hI.r hR, ?_, ?_, ?_⟩
          · rw [← hI.env.size]; cases hd : o.dst <;> simp [Act.put]
          · rw [← hI.env.defers]; cases hd : o.dst <;> simp [Act.put]
          · intro t ht
            rw [← hI.env.keep t ht]
            cases hd : o.dst with
            | none => simp [Act.put]
            | some d =>
              have := (h3 d hd).1
              have hne : d ≠ t := fun e => ht (e ▸ this)
              simp [Act.put, Array.getElem?_setIfInBounds_ne hne]
          · intro j oj hj hoj e he hb
            by_cases hji : i = j
            · subst hji
              rw [ho] at hoj
              cases hoj
              by_cases hei : i = e.on
              · rw [← hei]; exact Z14 his _
              · rw [getD_set_ne false hei]; exact hpre e he hb
            · rw [getD_set_ne false hji] at hj
              by_cases hei : i = e.on
              · rw [← hei]; exact Z14 his _
              · rw [getD_set_ne false hei]; exact hI.closed j oj hj hoj e he hb
          · intro j S' hj hS'
            by_cases hji : i = j
            · subst hji
              rw [hS] at hS'
              cases hS'
              exact hT
            · rw [getD_set_ne false hji] at hj
              have hold := S'.mono _ _ _ hR (hI.typed j S' hj hS')
              refine S'.loc _ _ _ (fun t ht => ?_) hold
              cases hd : o.dst with
              | none => simp [Act.put]
              | some d =>
                have hja : i ∉ A.getD j [] := by
                  intro hmem
                  obtain ⟨oj, hoj⟩ : ∃ oj, ops[j]? = some oj := ⟨_, Array.getElem?_eq_getElem (by have := (List.getElem?_eq_some_iff.1 hS').1; omega)⟩
                  have := Z17 hok hI.closed hI.sz j oj hoj (hI.closed j oj hj hoj) i hmem
                  rw [Z0k his false true, hun] at this
                  cases this
                have hne : d ≠ t := fun e => (h3 d hd).2 j S' hS' (fun e => hji e.symm) hja (e ▸ ht)
                simp [Act.put, Array.getElem?_setIfInBounds_ne hne]
          · intro j hj
            have : i ≠ j := by omega
            rw [getD_set_ne false this]
            exact hI.un j hj
        have hk : ∀ v w', R w w' → S.T (a.put o.dst v) w' → wpAny P .any ops Q fuel (listed.setIfInBounds i true) (a.put o.dst v) w' :=
          fun v w' hR hT => ih _ _ _ (hnext v w' hR hT) (count_set his hun _ hcnt)
        unfold wpOp
        simp only [ho]
        rcases hst with ⟨hw, hy⟩ | ⟨hw, hT⟩
        · rw [if_pos hw]
          refine .inl ?_
          unfold Yields at hy
          unfold Oper.wp
          generalize (execOp a.eval o).run P w = r at hy ⊢
          cases r with
          | halt x w' => exact hy.elim
          | ok n w' =>
            cases n <;> simp only [Oper.upon] at hy ⊢
            case value v => exact hk v w' hy.1 hy.2
            case skip => exact hk undef w' hy.1 hy.2
            case enter f args =>
              refine hy.2.mono fun e w'' ⟨v, he, hR, hT⟩ => ?_
              subst he
              exact hk v w'' (hrt _ _ _ hy.1 hR) hT
        · rw [if_neg (by rw [hw]; exact Bool.false_ne_true)]
          exact hk undef w (hrr w) hT
      · rcases hm with hm | ⟨hm, hmall⟩
        · omega
        · obtain rfl : i = m := by omega
          have hl : ∀ j, j < i → listed.getD j false = true := fun j hj => hanc j (hmall j hj)
          have he := hend a w hI.env hI.r (fun j S hS => hI.typed j S (hl j (by have := (List.getElem?_eq_some_iff.1 hS).1; omega)) hS)
          rw [if_neg (by omega)] at he
          have hf0 : fuel = 0 := by
            have hz : (listed.setIfInBounds i true).toList.count false = 0 := by
              rw [List.count_eq_zero]
              intro hmem
              obtain ⟨j, hj, hje⟩ := List.getElem_of_mem hmem
              have hj' : j < listed.size := by simpa using hj
              by_cases hji : i = j
              · subst hji
                simp at hje
              · have := hl j (by have := hI.sz; omega)
                rw [← getD_set_ne (i := i) false hji] at this
                simp [hj'] at this
                rw [Array.getElem_toList, this] at hje
                cases hje
            have := count_set his hun _ hcnt
            omega
          subst hf0
          refine wpOp_mono (fun a' w' hq => ?_) he
          exact ⟨(hall _ (by simpa using hI.sz) (count_set his hun _ hcnt)).1, hq⟩

theorem Z0w (n i : Nat) : (Array.replicate n false).getD i false = false := by
  simp only [Array.getD_eq_getD_getElem?, Array.getElem?_replicate]
  split <;> rfl

/-- THE THEOREM: each operation's fact, shown once. -/
theorem Z47 {id : Nat} {l : List Oper} {w : World} (Fs : List (TFact R)) (A : List (List Nat)) (D : List Tmp) (hf : P.follows .mixedOrders = true) (hok : okB l.toArray D A (Fs.map TFact.L) Fs.length = true)
    (hm : (decide (Fs.length = l.length) || (decide (Fs.length + 1 = l.length) && (List.range Fs.length).all fun j => (A.getD Fs.length []).contains j)) = true)
    (hrr : ∀ x, R x x) (hrt : ∀ x y z, R x y → R y z → R x z) (hw0 : R w0 w.drew)
    (hstep : ∀ (k : Nat) (o : Oper) (S : TFact R), l[k]? = some o → Fs[k]? = some S → ∀ a w, Env a0 D a → R w0 w → (∀ (i : Nat) (S' : TFact R), i ∈ A.getD k [] → Fs[i]? = some S' → S'.T a w) → opT P l.toArray R o S.T a w)
    (hend : ∀ a w, Env a0 D a → R w0 w → (∀ (i : Nat) (S : TFact R), Fs[i]? = some S → S.T a w) → if Fs.length = l.length then Q .normal a w else wpOp P l.toArray Q Fs.length (fun a w => Q .normal a w) a w) :
    (Code.region id l.toArray true).wp P Q a0 w := by
  refine wp_region_any hf ?_
  refine typed_any (a0 := a0) (w0 := w0) (R := R) (Fs := Fs) (A := A) (D := D) (m := Fs.length) hrt hok rfl ?_ (by simpa using hstep) (by simpa using hend) hrr _ _ _ _ ?_ (by simp)
  · simp only [Bool.or_eq_true, Bool.and_eq_true, decide_eq_true_eq, List.all_eq_true, List.mem_range, List.contains_iff_mem] at hm
    simpa using hm
  · refine ⟨by simp, ⟨rfl, rfl, fun _ _ => rfl⟩, hw0, ?_, ?_, ?_⟩
    · intro j o hj
      rw [Z0w] at hj
      cases hj
    · intro i S hi
      rw [Z0w] at hi
      cases hi
    · intro i _
      exact Z0w _ _
end
end Go.Proofs.YtakkhglbdljfiaaGreatDoor
