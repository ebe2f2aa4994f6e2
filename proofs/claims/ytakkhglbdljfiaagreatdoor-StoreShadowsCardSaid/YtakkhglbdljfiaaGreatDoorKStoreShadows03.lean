/- Things of one's own: what holds of some blocks; below H all is as it was. -/
import Derived.Test.YtakkhglbdljfiaaGreatDoorKStoreShadows02
namespace Go.Proofs.YtakkhglbdljfiaaGreatDoor
set_option linter.unusedVariables false
set_option linter.unusedSimpArgs false
open Go.RowKit

/-- Only the blocks of F, and what is new, have turned. -/
structure Chg (F : List Nat) (w w' : World) : Prop where
  os : w'.os = w.os
  tape : w'.tape = w.tape
  output : w'.output = w.output
  size : w.heap.size ≤ w'.heap.size
  block : ∀ i, i < w.heap.size → i ∉ F → w'.heap[i]? = w.heap[i]?
/-- What holds of the blocks 'foot', whatever becomes of others. -/
structure Thing where
  foot : List Nat
  holds : World → Prop
  keep : ∀ w w', w.heap.size ≤ w'.heap.size → (∀ i ∈ foot, w'.heap[i]? = w.heap[i]?) → holds w → holds w'
  lt : ∀ w, holds w → ∀ i ∈ foot, i < w.heap.size
section
variable {F G : List Nat} {w w' w'' : World}
theorem Chg.refl (F : List Nat) (w : World) : Chg F w w := ⟨rfl, rfl, rfl, Nat.le_refl _, fun _ _ _ => rfl⟩
theorem Chg.trans (h : Chg F w w') (k : Chg F w' w'') : Chg F w w'' :=
  ⟨k.os.trans h.os, k.tape.trans h.tape, k.output.trans h.output, Nat.le_trans h.size k.size, fun i hi hn => (k.block i (Nat.lt_of_lt_of_le hi h.size) hn).trans (h.block i hi hn)⟩
/-- Behind a change, a change of what is new or was changed. -/
theorem Chg.trans' (h : Chg F w w') (k : Chg G w' w'') (hG : ∀ i ∈ G, i ∈ F ∨ w.heap.size ≤ i) : Chg F w w'' :=
  ⟨k.os.trans h.os, k.tape.trans h.tape, k.output.trans h.output, Nat.le_trans h.size k.size, fun i hi hn => (k.block i (Nat.lt_of_lt_of_le hi h.size) (fun hg => by
    rcases hG i hg with h1 | h1
    · exact hn h1
    · omega)).trans (h.block i hi hn)⟩
theorem Chg.mono (h : Chg F w w') (hF : ∀ i ∈ F, i ∈ G ∨ w.heap.size ≤ i) : Chg G w w' :=
  ⟨h.os, h.tape, h.output, h.size, fun i hi hn => h.block i hi (fun hf => by
    rcases hF i hf with h1 | h1
    · exact hn h1
    · omega)⟩
theorem Chg.of_ext (h : Ext w w') (F : List Nat) : Chg F w w' := ⟨h.os, h.tape, h.output, h.size, fun i hi _ => h.block i hi⟩
theorem Chg.ext (h : Chg [] w w') : Ext w w' := ⟨h.os, h.tape, h.output, h.size, fun i hi => h.block i hi (by simp)⟩
theorem Chg.of_grown {b : Nat} (h : w.grownBy w' (some b)) : Chg [b] w w' := ⟨h.os, h.tape, h.output, h.size, fun i hi hn => h.block i hi (by simpa using hn)⟩
theorem Chg.grown {b : Nat} (h : Chg [b] w w') : w.grownBy w' (some b) := ⟨h.os, h.tape, h.output, h.size, fun i hi hn => h.block i hi (by simpa using hn)⟩
theorem Chg.drew (h : Chg F w w') : Chg F w w'.drew := ⟨h.os, h.tape, h.output, h.size, h.block⟩
theorem Chg.alloc (h : Chg F w w') (o : Obj) : Chg F w (w'.alloc o) := h.trans (Chg.of_ext (Ext.alloc w' o) F)
theorem Chg.set (h : Chg F w w') {p : Addr} (hp : p.block ∈ F ∨ w.heap.size ≤ p.block) (u : Value) : Chg F w (w'.setCell p u) :=
  h.trans' (G := [p.block]) (Chg.of_grown (Z1c (World.grownBy.refl w' _) (.inl rfl) u)) (fun i hi => by
    simp at hi
    subst hi
    exact hp)
theorem Chg.blk (h : Chg F w w') {g : Nat} {t : TypeId} {cs : Array Value} (hb : Blk w g t cs) (hg : g ∉ F) : Blk w' g t cs := (h.block g hb.lt hg).trans hb
theorem Chg.below {H : Nat} {A : World} (h : Chg F w w') (hb : Below H A w) (hs : H ≤ w.heap.size) (hF : ∀ i ∈ F, H ≤ i) : Below H A w' :=
  ⟨h.os.trans hb.os, h.tape.trans hb.tape, h.output.trans hb.output, Nat.le_trans hb.size h.size, fun i hi => (h.block i (by omega) (fun hf => by have := hF i hf; omega)).trans (hb.block i hi)⟩
end
/-- A block of cells. -/
def tBlk (b : Nat) (t : TypeId) (cs : Array Value) : Thing where
  foot := [b]
  holds := fun w => Blk w b t cs
  keep := fun w w' _ h hb => (h b (by simp)).trans hb
  lt := fun w h i hi => by simp at hi; subst hi; exact h.lt

def Ths (w : World) : List Thing → Prop
  | [] => True
  | x :: L => x.holds w ∧ Ths w L
structure OwnT (H : Nat) (A : World) (L : List Thing) (w : World) : Prop where
  below : Below H A w
  size : H ≤ w.heap.size
  all : Ths w L
  high : ∀ x ∈ L, ∀ i ∈ x.foot, H ≤ i
  diff : L.Pairwise fun x y => ∀ i ∈ x.foot, i ∉ y.foot
section
variable {H : Nat} {A w w' : World} {L L1 L2 : List Thing} {T T' : Thing} {F : List Nat}
theorem Ths.mem (h : Ths w L) (hx : T ∈ L) : T.holds w := by
  induction L with
  | nil => cases hx
  | cons y L ih =>
    rcases List.mem_cons.1 hx with rfl | hx
    · exact h.1
    · exact ih h.2 hx
theorem Ths.of (h : ∀ x ∈ L, x.holds w) : Ths w L := by
  induction L with
  | nil => trivial
  | cons x L ih => exact ⟨h x (by simp), ih fun y hy => h y (by simp [hy])⟩
theorem OwnT.start (w : World) : OwnT w.heap.size w [] w := ⟨Below.refl _ _, Nat.le_refl _, trivial, (fun _ h => by cases h), List.Pairwise.nil⟩
theorem OwnT.lt (h : OwnT H A L w) (hx : T ∈ L) {i : Nat} (hi : i ∈ T.foot) : i < w.heap.size := T.lt w (h.all.mem hx) i hi
theorem OwnT.at_ (h : OwnT H A L w) (hx : T ∈ L) : T.holds w := h.all.mem hx
theorem OwnT.t0 (h : OwnT H A (T :: L) w) : T.holds w := h.all.1
theorem OwnT.t1 {X : Thing} (h : OwnT H A (X :: T :: L) w) : T.holds w := h.all.2.1
theorem OwnT.t2 {X Y : Thing} (h : OwnT H A (X :: Y :: T :: L) w) : T.holds w := h.all.2.2.1
theorem OwnT.t3 {X Y Z : Thing} (h : OwnT H A (X :: Y :: Z :: T :: L) w) : T.holds w := h.all.2.2.2.1
theorem OwnT.t4 {X Y Z U : Thing} (h : OwnT H A (X :: Y :: Z :: U :: T :: L) w) : T.holds w := h.all.2.2.2.2.1
theorem OwnT.t5 {X Y Z U V : Thing} (h : OwnT H A (X :: Y :: Z :: U :: V :: T :: L) w) : T.holds w := h.all.2.2.2.2.2.1
/-- What is not of F stays. -/
theorem Thing.chg (T : Thing) (h : T.holds w) (k : Chg F w w') (hF : ∀ i ∈ T.foot, i ∉ F) : T.holds w' :=
  T.keep w w' k.size (fun i hi => k.block i (T.lt w h i hi) (hF i hi)) h
theorem OwnT.ext (h : OwnT H A L w) (k : Ext w w') : OwnT H A L w' :=
  ⟨h.below.trans (k.mono h.size), Nat.le_trans h.size k.size, Ths.of fun x hx => x.chg (h.all.mem hx) (Chg.of_ext k []) (by simp), h.high, h.diff⟩
theorem OwnT.drew (h : OwnT H A L w) : OwnT H A L w.drew := h.ext (Ext.drew w)
theorem OwnT.other (h : OwnT H A L w) (o : Obj) : OwnT H A L (w.alloc o) := h.ext (Ext.alloc w o)
theorem OwnT.perm (h : OwnT H A L w) {M : List Thing} (hp : L.Perm M) : OwnT H A M w :=
  ⟨h.below, h.size, Ths.of fun x hx => h.all.mem (hp.mem_iff.2 hx), fun x hx => h.high x (hp.mem_iff.2 hx),
   hp.pairwise h.diff (fun {x y} hxy i hi hj => hxy i hj hi)⟩
theorem OwnT.sub (h : OwnT H A L w) {M : List Thing} (hp : M.Sublist L) : OwnT H A M w :=
  ⟨h.below, h.size, Ths.of fun x hx => h.all.mem (hp.subset hx), fun x hx => h.high x (hp.subset hx), h.diff.sublist hp⟩
theorem OwnT.tail (h : OwnT H A (T :: L) w) : OwnT H A L w := h.sub (List.sublist_cons_self T L)
/-- A new thing. -/
theorem OwnT.cons (h : OwnT H A L w) (k : Ext w w') (T : Thing) (hT : T.holds w') (hf : ∀ i ∈ T.foot, w.heap.size ≤ i) : OwnT H A (T :: L) w' := by
  have h1 := h.ext k
  refine ⟨h1.below, h1.size, ⟨hT, h1.all⟩, fun x hx i hi => ?_, List.Pairwise.cons (fun y hy i hi hj => ?_) h.diff⟩
  · rcases List.mem_cons.1 hx with rfl | hx
    · have := hf i hi; have := h.size; omega
    · exact h.high x hx i hi
  · have := hf i hi
    have := h.lt hy hj
    omega
theorem OwnT.new (h : OwnT H A L w) (t : TypeId) (cs : Array Value) : OwnT H A (tBlk w.heap.size t cs :: L) (w.alloc (.cells cs t)) :=
  h.cons (Ext.alloc w _) (tBlk w.heap.size t cs) (Blk.new w t cs) (fun i hi => by simp [tBlk] at hi; omega)
/-- The first thing has turned, and what is new. -/
theorem OwnT.call (h : OwnT H A (T :: L) w) (k : Chg F w w') (hF : ∀ i ∈ F, i ∈ T.foot) (T' : Thing) (hT : T'.holds w') (hf : ∀ i ∈ T'.foot, i ∈ T.foot ∨ w.heap.size ≤ i) : OwnT H A (T' :: L) w' := by
  have hd := List.pairwise_cons.1 h.diff
  refine ⟨k.below h.below h.size (fun i hi => h.high T (by simp) i (hF i hi)), Nat.le_trans h.size k.size, ⟨hT, Ths.of fun x hx => x.chg (h.all.mem (by simp [hx])) k (fun i hi hf => hd.1 x hx i (hF i hf) hi)⟩, fun x hx i hi => ?_, List.Pairwise.cons (fun y hy i hi hj => ?_) hd.2⟩
  · rcases List.mem_cons.1 hx with rfl | hx
    · rcases hf i hi with h1 | h1
      · exact h.high T (by simp) i h1
      · have := h.size; omega
    · exact h.high x (by simp [hx]) i hi
  · rcases hf i hi with h1 | h1
    · exact hd.1 y hy i h1 hj
    · have := h.lt (T := y) (by simp [hy]) hj
      omega
/-- A cell of a block. -/
theorem OwnT.set {b : Nat} {t : TypeId} {cs : Array Value} (h : OwnT H A (tBlk b t cs :: L) w) (i : Nat) (u : Value) : OwnT H A (tBlk b t (cs.setIfInBounds i u) :: L) (w.setCell ⟨b, i, none⟩ u) :=
  h.call (F := [b]) (Chg.of_grown (Z1c (World.grownBy.refl w _) (.inl rfl) u)) (fun i hi => by simpa [tBlk] using hi) (tBlk b t (cs.setIfInBounds i u)) ((h.all.1 : Blk w b t cs).set_ i u) (fun i hi => .inl (by simpa [tBlk] using hi))
end
end Go.Proofs.YtakkhglbdljfiaaGreatDoor

/- Walks by facts: the frame is a letter, what its slots hold stands in facts. No function of the program in sight. -/
namespace Go.Proofs.YtakkhglbdljfiaaGreatDoor
set_option linter.unusedVariables false
set_option linter.unusedSimpArgs false
open Go.RowKit

structure Fr (n : Nat) (a : Act) : Prop where
  size : a.tmps.size = n
  defers : a.defers = []
section
variable {P : Program} {Q : Exit → Act → World → Prop} {next : Act → World → Prop} {a a0 a' : Act} {w w' w0 : World} {n id id' : Nat} {D : List Tmp} {fn : Func} {R : Ending → World → Prop}
theorem Fr.env (k : Fr n a0) (h : Env a0 D a) : Fr n a := ⟨h.size.trans k.size, h.defers.trans k.defers⟩
theorem Env.refl (a : Act) (D : List Tmp) : Env a D a := ⟨rfl, rfl, fun _ _ => rfl⟩
theorem Z00 (h : next a w) : Exit.then next Q .normal a w := h
theorem Z0p (h : Q (.exit id) a w) : Exit.then next Q (.exit id) a w := h
theorem Z0u (h : Q .ret a w) : Exit.then next Q .ret a w := h
theorem Z0n (h : Q .normal a w) : Exit.inBlock id Q .normal a w := h
theorem Z0z (h : Q .normal a w) : Exit.inBlock id Q (.exit id) a w := by
  simp only [Exit.inBlock, if_true]
  exact h
theorem Z1w (h : Q .ret a w) : Exit.inBlock id Q .ret a w := h
theorem Z0c {f : FuncId} {c : Code} {args : Array Value} (hf : P.funcs[f]? = some fn) (hb : fn.body = some c) (n : Nat) (hn : fn.ntmps = n) (hle : Nat.ble args.size n = true)
    (h : ∀ a, Fr n a → (∀ i v, args[i]? = some v → a.eval (.tmp i) = v) → c.wp P (bodyPost P fn R) a w) : Calls P f args w R := by
  refine calls_of_wp hf hb (h _ ⟨?_, rfl⟩ fun i v hv => ?_)
  · have := Nat.le_of_ble_eq_true hle
    subst hn
    simp only [Array.size_append, Array.size_replicate]
    omega
  · have hi : i < args.size := (Array.getElem?_eq_some_iff.1 hv).1
    rw [Z16, Array.getD_eq_getD_getElem?, Array.getElem?_append_left hi, hv]
    rfl
theorem Z0i {t : Tmp} {v : Value} (hr : fn.results = #[.tmp t]) (k : Fr n a) (e : a.eval (.tmp t) = v) (h : R (.returned v) w) : bodyPost P fn R .ret a w := by
  refine bodyPost_ret (v := v) ?_ k.defers h
  rw [← e, Z16]
  simp [results, hr]
theorem Z4f {t u : Tmp} {v x : Value} (hr : fn.results = #[.tmp t, .tmp u]) (k : Fr n a) (e : a.eval (.tmp t) = v) (e' : a.eval (.tmp u) = x) (h : R (.returned (.tuple #[v, x])) w) : bodyPost P fn R .ret a w := by
  refine bodyPost_ret (v := .tuple #[v, x]) ?_ k.defers h
  rw [← e, ← e', Z16, Z16]
  simp [results, hr]
/-- Results that lie in a cell: the first one. -/
theorem ret_FC2 {t u : Tmp} {T : TypeId} {v x : Value} {p : Addr} (hr : fn.results = #[.cell t T, .tmp u]) (k : Fr n a) (e : a.eval (.tmp t) = .pointer (some p)) (e' : a.eval (.tmp u) = x) (hl : (loadVar T p).run P w = .ok v w) (h : R (.returned (.tuple #[v, x])) w) : bodyPost P fn R .ret a w := by
  refine bodyPost_ret (v := .tuple #[v, x]) ?_ k.defers h
  simp only [Z16, Array.getD_eq_getD_getElem?] at e e'
  simp [results, hr, e, e', hl, asAddr]
theorem Z7b {t : Tmp} {T : TypeId} {v : Value} {p : Addr} (hr : fn.results = #[.cell t T]) (k : Fr n a) (e : a.eval (.tmp t) = .pointer (some p)) (hl : (loadVar T p).run P w = .ok v w) (h : R (.returned v) w) : bodyPost P fn R .ret a w := by
  refine bodyPost_ret (v := v) ?_ k.defers h
  simp only [Z16, Array.getD_eq_getD_getElem?] at e
  simp [results, hr, e, hl, asAddr]
theorem end_F0 (hr : fn.results = #[]) (k : Fr n a) (h : R (.returned (.tuple #[])) w) : bodyPost P fn R .normal a w :=
  bodyPost_end (results_none hr _ _ _) k.defers h
theorem Z0l {c : Operand} {x y : Code} {v : Value} (hc : a.eval c = v) (hv : v = .bool true) (h : x.wp P Q a w) : (Code.cond c x y).wp P Q a w := wp_cond_true (hc.trans hv) h
theorem Z07 {c : Operand} {x y : Code} {v : Value} (hc : a.eval c = v) (hv : v = .bool false) (h : y.wp P Q a w) : (Code.cond c x y).wp P Q a w := wp_cond_false (hc.trans hv) h
/-! Operations, in order. -/
variable {ops : Array Oper} {rest : List Oper} {o : Oper} {v : Value}
theorem Env.put (hE : Env a0 D a) {d : Tmp} (hD : D.contains d = true) (v : Value) : Env a0 D (a.put (some d) v) := by
  obtain ⟨h1, h2, h3⟩ := hE
  refine ⟨by simp [Act.put, h1], h2, fun t ht => ?_⟩
  have : d ≠ t := fun e => ht (by subst e; simpa using hD)
  rw [← h3 t ht]
  simp [Act.put, Array.getElem?_setIfInBounds_ne this]
theorem Z0m {d t : Tmp} (h : Nat.beq t d = false) (v : Value) : (a.put (some d) v).eval (.tmp t) = a.eval (.tmp t) := by
  have : d ≠ t := fun e => Nat.ne_of_beq_eq_false h e.symm
  simp [Act.put, Z16, Array.getD_eq_getD_getElem?, Array.getElem?_setIfInBounds_ne this]
theorem Z1y (d : Tmp) (hE : Env a0 D a) (k : Fr n a0) (hd : o.dst = some d) (hn : Nat.blt d n = true) (hD : D.contains d = true) (hg : o.guard = none)
    (h : (execOp a.eval o).run P w = .ok (.value v) w')
    (hk : ∀ a', Env a0 D a' → a'.eval (.tmp d) = v → (∀ t, Nat.beq t d = false → a'.eval (.tmp t) = a.eval (.tmp t)) → wpList P ops Q rest a' w') : wpList P ops Q (o :: rest) a w := by
  refine wpList_plain hg fun K hK => Z10 h (hK _ _ ?_)
  rw [hd]
  exact hk _ (hE.put hD v) (Z0h (by rw [hE.size, k.size]; exact Nat.le_of_ble_eq_true hn)) (fun t ht => Z0m ht v)
theorem Z02 (d : Tmp) (hE : Env a0 D a) (k : Fr n a0) (hd : o.dst = some d) (hn : Nat.blt d n = true) (hD : D.contains d = true) (hg : o.guard = none)
    (h : (execOp a.eval o).run P w = .ok (.value v) w)
    (hk : ∀ a', Env a0 D a' → a'.eval (.tmp d) = v → (∀ t, Nat.beq t d = false → a'.eval (.tmp t) = a.eval (.tmp t)) → wpList P ops Q rest a' w) : wpList P ops Q (o :: rest) a w := Z1y d hE k hd hn hD hg h hk
theorem Z0y (hE : Env a0 D a) (hd : o.dst = none) (hg : o.guard = none) (h : (execOp a.eval o).run P w = .ok .skip w') (hk : wpList P ops Q rest a w') : wpList P ops Q (o :: rest) a w := by
  refine wpList_plain hg fun K hK => Z1e h (hK _ _ ?_)
  rw [hd]
  exact hk
theorem Z06 {f : FuncId} {args : Array Value} {S : Ending → World → Prop} (d : Tmp) (hE : Env a0 D a) (k : Fr n a0) (hd : o.dst = some d) (hn : Nat.blt d n = true) (hD : D.contains d = true) (hg : o.guard = none)
    (h : (execOp a.eval o).run P w = .ok (.enter f args) w) (hc : Calls P f args w S)
    (hk : ∀ e w'', S e w'' → ∃ v, e = .returned v ∧ ∀ a', Env a0 D a' → a'.eval (.tmp d) = v → (∀ t, Nat.beq t d = false → a'.eval (.tmp t) = a.eval (.tmp t)) → wpList P ops Q rest a' w'') : wpList P ops Q (o :: rest) a w := by
  refine wpList_plain hg fun K hK => Z2s h hc fun e w'' hS => ?_
  obtain ⟨v, he, hk⟩ := hk e w'' hS
  refine ⟨v, he, hK _ _ ?_⟩
  rw [hd]
  exact hk _ (hE.put hD v) (Z0h (by rw [hE.size, k.size]; exact Nat.le_of_ble_eq_true hn)) (fun t ht => Z0m ht v)
theorem sq_valg {j dj : Nat} {b : Bool} (d : Tmp) (hE : Env a0 D a) (k : Fr n a0) (hd : o.dst = some d) (hn : Nat.blt d n = true) (hD : D.contains d = true) (hg : o.guard = some (j, b)) (hj : (ops[j]?).bind (·.dst) = some dj) (hb : a.eval (.tmp dj) = .bool b)
    (h : (execOp a.eval o).run P w = .ok (.value v) w')
    (hk : ∀ a', Env a0 D a' → a'.eval (.tmp d) = v → (∀ t, Nat.beq t d = false → a'.eval (.tmp t) = a.eval (.tmp t)) → wpList P ops Q rest a' w') : wpList P ops Q (o :: rest) a w := by
  refine wpList_step fun K hK => ?_
  rw [if_pos ((Z0t hg hj hb).trans (by simp))]
  refine Z10 h (hK _ _ ?_)
  rw [hd]
  exact hk _ (hE.put hD v) (Z0h (by rw [hE.size, k.size]; exact Nat.le_of_ble_eq_true hn)) (fun t ht => Z0m ht v)
theorem Z04 {j dj : Nat} {b : Bool} (d : Tmp) (hE : Env a0 D a) (k : Fr n a0) (hd : o.dst = some d) (hn : Nat.blt d n = true) (hD : D.contains d = true) (hg : o.guard = some (j, b)) (hj : (ops[j]?).bind (·.dst) = some dj) (hb : a.eval (.tmp dj) = .bool b)
    (h : (execOp a.eval o).run P w = .ok (.value v) w)
    (hk : ∀ a', Env a0 D a' → a'.eval (.tmp d) = v → (∀ t, Nat.beq t d = false → a'.eval (.tmp t) = a.eval (.tmp t)) → wpList P ops Q rest a' w) : wpList P ops Q (o :: rest) a w := sq_valg d hE k hd hn hD hg hj hb h hk
theorem Z1b {j dj : Nat} {b : Bool} {f : FuncId} {args : Array Value} {S : Ending → World → Prop} (d : Tmp) (hE : Env a0 D a) (k : Fr n a0) (hd : o.dst = some d) (hn : Nat.blt d n = true) (hD : D.contains d = true) (hg : o.guard = some (j, b)) (hj : (ops[j]?).bind (·.dst) = some dj) (hb : a.eval (.tmp dj) = .bool b)
    (h : (execOp a.eval o).run P w = .ok (.enter f args) w) (hc : Calls P f args w S)
    (hk : ∀ e w'', S e w'' → ∃ v, e = .returned v ∧ ∀ a', Env a0 D a' → a'.eval (.tmp d) = v → (∀ t, Nat.beq t d = false → a'.eval (.tmp t) = a.eval (.tmp t)) → wpList P ops Q rest a' w'') : wpList P ops Q (o :: rest) a w := by
  refine wpList_step fun K hK => ?_
  rw [if_pos ((Z0t hg hj hb).trans (by simp))]
  refine Z2s h hc fun e w'' hS => ?_
  obtain ⟨v, he, hk⟩ := hk e w'' hS
  refine ⟨v, he, hK _ _ ?_⟩
  rw [hd]
  exact hk _ (hE.put hD v) (Z0h (by rw [hE.size, k.size]; exact Nat.le_of_ble_eq_true hn)) (fun t ht => Z0m ht v)
theorem Z05 {j dj : Nat} {b : Bool} (d : Tmp) (hE : Env a0 D a) (k : Fr n a0) (hd : o.dst = some d) (hn : Nat.blt d n = true) (hD : D.contains d = true) (hg : o.guard = some (j, b)) (hj : (ops[j]?).bind (·.dst) = some dj) (hb : a.eval (.tmp dj) = .bool (!b) ∨ a.eval (.tmp dj) = undef)
    (hk : ∀ a', Env a0 D a' → a'.eval (.tmp d) = undef → (∀ t, Nat.beq t d = false → a'.eval (.tmp t) = a.eval (.tmp t)) → wpList P ops Q rest a' w) : wpList P ops Q (o :: rest) a w := by
  refine wpList_step fun K hK => ?_
  have hw : Region.wanted o (yielded ops a.tmps) = false := by
    rcases hb with hb | hb
    · exact (Z0t hg hj hb).trans (by simp)
    · exact Z68 hg hj hb
  rw [hw]
  simp only [Bool.false_eq_true, if_false]
  refine hK _ _ ?_
  rw [hd]
  exact hk _ (hE.put hD undef) (Z0h (by rw [hE.size, k.size]; exact Nat.le_of_ble_eq_true hn)) (fun t ht => Z0m ht undef)
/-! What single operations yield. -/
variable {ρ : Operand → Value}
theorem Z03 {x : Operand} (ho : o.op = .move x) (hx : ρ x = v) : (execOp ρ o).run P w = .ok (.value v) w := by simp [execOp, ho, hx]
theorem Z01 {x : Operand} (ho : o.op = .assign x) (hx : ρ x = v) : (execOp ρ o).run P w = .ok (.value v) w := by simp [execOp, ho, hx]
theorem Z0d {c x y : Operand} (ho : o.op = .pick c x y) (hc : ρ c = .bool true) (hx : ρ x = v) : (execOp ρ o).run P w = .ok (.value v) w := by simp [execOp, ho, hc, hx, asBool]
theorem Z0g {c x y : Operand} (ho : o.op = .pick c x y) (hc : ρ c = .bool false) (hx : ρ y = v) : (execOp ρ o).run P w = .ok (.value v) w := by simp [execOp, ho, hc, hx, asBool]
theorem Z0r {x : Operand} {ad : Addr} (ho : o.op = .nilCheck x) (hx : ρ x = .pointer (some ad)) : (execOp ρ o).run P w = .ok (.value (.pointer (some ad))) w := by simp [execOp, ho, hx]
theorem Z3b {op : BinOp} {t u : TypeId} {x y : Operand} {k : IntKind} {m n : Int} (ho : o.op = .binOp op t x y u) (hx : ρ x = .int k m) (hy : ρ y = .int k n) (h : (binOp op t (.int k m) (.int k n)).run P w = .ok v w) : (execOp ρ o).run P w = .ok (.value v) w := by
  unfold execOp
  simp only [ho, hx, hy]
  have hg : (eqGuard op t x y (.int k m) (.int k n)).run P w = .ok () w := by
    cases op <;> simp [eqGuard]
  simp [hg, h]
section
variable {t u : TypeId} {x y : Operand} {k : IntKind} {m n : Int}
theorem Z1v (ho : o.op = .binOp .add t x y u) (hx : ρ x = .int .i64 m) (hy : ρ y = .int .i64 n) (h : -9223372036854775808 ≤ m + n ∧ m + n ≤ 9223372036854775807) : (execOp ρ o).run P w = .ok (.value (.int .i64 (m + n))) w :=
  Z3b ho hx hy (by simp [binOp, Op.intArith, IntWalk.i64_in _ h])
theorem Z4t (ho : o.op = .binOp .sub t x y u) (hx : ρ x = .int .i64 m) (hy : ρ y = .int .i64 n) (h : -9223372036854775808 ≤ m - n ∧ m - n ≤ 9223372036854775807) : (execOp ρ o).run P w = .ok (.value (.int .i64 (m - n))) w :=
  Z3b ho hx hy (by simp [binOp, Op.intArith, IntWalk.i64_in _ h])
theorem x_mul (ho : o.op = .binOp .mul t x y u) (hx : ρ x = .int .i64 m) (hy : ρ y = .int .i64 n) (h : -9223372036854775808 ≤ m * n ∧ m * n ≤ 9223372036854775807) : (execOp ρ o).run P w = .ok (.value (.int .i64 (m * n))) w :=
  Z3b ho hx hy (by simp [binOp, Op.intArith, IntWalk.i64_in _ h])
theorem Z1j (ho : o.op = .binOp .lss t x y u) (hx : ρ x = .int k m) (hy : ρ y = .int k n) : (execOp ρ o).run P w = .ok (.value (.bool (decide (m < n)))) w := Z3b ho hx hy (by simp [binOp, Op.intCmp])
theorem Z74 (ho : o.op = .binOp .leq t x y u) (hx : ρ x = .int k m) (hy : ρ y = .int k n) : (execOp ρ o).run P w = .ok (.value (.bool (decide (m ≤ n)))) w := Z3b ho hx hy (by simp [binOp, Op.intCmp])
theorem x_gtr (ho : o.op = .binOp .gtr t x y u) (hx : ρ x = .int k m) (hy : ρ y = .int k n) : (execOp ρ o).run P w = .ok (.value (.bool (decide (n < m)))) w := Z3b ho hx hy (by simp [binOp, Op.intCmp])
theorem Z27 (ho : o.op = .binOp .geq t x y u) (hx : ρ x = .int k m) (hy : ρ y = .int k n) : (execOp ρ o).run P w = .ok (.value (.bool (decide (n ≤ m)))) w := Z3b ho hx hy (by simp [binOp, Op.intCmp])
theorem Z28 (ho : o.op = .binOp .eql t x y u) (hx : ρ x = .int k m) (hy : ρ y = .int k n) : (execOp ρ o).run P w = .ok (.value (.bool (decide (m = n)))) w := Z3b ho hx hy (by simp [binOp, Op.intCmp, BEq.beq])
theorem Z0s (ho : o.op = .binOp .neq t x y u) (hx : ρ x = .int k m) (hy : ρ y = .int k n) : (execOp ρ o).run P w = .ok (.value (.bool (decide (m ≠ n)))) w := Z3b ho hx hy (by simp [binOp, Op.intCmp, bne, BEq.beq])
theorem Z21 {b : Bool} (ho : o.op = .unOp .not t x) (hx : ρ x = .bool b) : (execOp ρ o).run P w = .ok (.value (.bool (!b))) w := by simp [execOp, ho, hx, Op.unary]
theorem Z2r {A : Option Addr} {l c : Nat} {e : TypeId} (hu : P.underlying t = some (.slice e)) (ho : o.op = .call { callee := .builtin .len, args := #[x], argTypes := #[t] }) (hx : ρ x = .slice A l c) : (execOp ρ o).run P w = .ok (.value (.int .i64 (l : Int))) w := by
  simp [execOp, ho, hx, resolve, invoke, builtin, Builtin.len_, Builtin.lenOf, run_underlying hu, goInt]
theorem x_len_s {s : ByteArray} (hu : P.underlying t = some .string) (ho : o.op = .call { callee := .builtin .len, args := #[x], argTypes := #[t] }) (hx : ρ x = .string s) : (execOp ρ o).run P w = .ok (.value (.int .i64 (s.size : Int))) w := by
  simp [execOp, ho, hx, resolve, invoke, builtin, Builtin.len_, Builtin.lenOf, run_underlying hu, goInt]
end
theorem Z08 {b c : Bool} (h : (execOp ρ o).run P w = .ok (.value (.bool b)) w) (e : b = c) : (execOp ρ o).run P w = .ok (.value (.bool c)) w := e ▸ h
theorem Z73 {v' : Value} (h : (execOp ρ o).run P w = .ok (.value v') w) (e : v' = v) : (execOp ρ o).run P w = .ok (.value v) w := e ▸ h
theorem Z18 {k : IntKind} {m n : Int} (h : m = n) : Value.int k m = .int k n := by rw [h]
end
/-! Things by their place in the row. -/
section
variable {H : Nat} {A w : World} {L : List Thing} {T T' : Thing}
theorem OwnT.get (h : OwnT H A L w) (i : Nat) (hi : L[i]? = some T) : T.holds w := h.all.mem (List.mem_of_getElem? hi)
theorem OwnT.blk (h : OwnT H A L w) (i : Nat) {b : Nat} {t : TypeId} {cs : Array Value} (hi : L[i]? = some (tBlk b t cs)) : Blk w b t cs := h.get i hi
theorem Z58 {α : Type} : ∀ (L : List α) (i : Nat) (x : α), L[i]? = some x → L.Perm (x :: L.eraseIdx i)
  | [], i, x, h => by simp at h
  | y :: L, 0, x, h => by simp at h; subst h; exact .refl _
  | y :: L, i + 1, x, h => by
    simp at h
    exact ((Z58 L i x h).cons y).trans (.swap _ _ _)
theorem Z87 {α : Type} : ∀ (L : List α) (i : Nat) (x y : α), L[i]? = some x → (y :: L.eraseIdx i).Perm (L.set i y)
  | [], i, x, y, h => by simp at h
  | z :: L, 0, x, y, h => by simp
  | z :: L, i + 1, x, y, h => by
    simp at h
    exact (List.Perm.swap _ _ _).trans ((Z87 L i x y h).cons z)
/-- The thing at place i ahead of the others. -/
theorem OwnT.pull (h : OwnT H A L w) (i : Nat) (hi : L[i]? = some T) : OwnT H A (T :: L.eraseIdx i) w := h.perm (Z58 L i T hi)
/-- .. and back, turned. -/
theorem OwnT.push {w' : World} (i : Nat) (hi : L[i]? = some T) (h : OwnT H A (T' :: L.eraseIdx i) w') : OwnT H A (L.set i T') w' := h.perm (Z87 L i T T' hi)
/-- Some of the things, in whatever order. -/
theorem OwnT.pick (h : OwnT H A L w) (is : List Nat) (hn : is.Nodup) : OwnT H A (is.filterMap fun i => L[i]?) w := by
  have hm : ∀ x ∈ is.filterMap (fun i => L[i]?), x ∈ L := fun x hx => by
    obtain ⟨i, _, hi⟩ := List.mem_filterMap.1 hx
    exact List.mem_of_getElem? hi
  refine ⟨h.below, h.size, Ths.of fun x hx => h.all.mem (hm x hx), fun x hx => h.high x (hm x hx), ?_⟩
  rw [List.pairwise_filterMap]
  refine (List.nodup_iff_pairwise_ne.1 hn).imp fun {i j} hij x hx y hy k hk hk' => ?_
  have hd := List.pairwise_iff_getElem.1 h.diff
  obtain ⟨hi, rfl⟩ := List.getElem?_eq_some_iff.1 hx
  obtain ⟨hj, rfl⟩ := List.getElem?_eq_some_iff.1 hy
  rcases Nat.lt_or_gt_of_ne hij with h1 | h1
  · exact hd i j hi hj h1 k hk hk'
  · exact hd j i hj hi h1 k hk' hk
/-- .. ahead of others. -/
theorem OwnT.pickR {R : List Thing} (h : OwnT H A (L ++ R) w) (is : List Nat) (hn : is.Nodup) : OwnT H A ((is.filterMap fun i => L[i]?) ++ R) w := by
  obtain ⟨d1, d2, d3⟩ := List.pairwise_append.1 h.diff
  have hp := OwnT.pick (h.sub (List.sublist_append_left L R)) is hn
  have hm : ∀ x ∈ is.filterMap (fun i => L[i]?), x ∈ L := fun x hx => by
    obtain ⟨i, _, hi⟩ := List.mem_filterMap.1 hx
    exact List.mem_of_getElem? hi
  have hmm : ∀ x ∈ (is.filterMap fun i => L[i]?) ++ R, x ∈ L ++ R := fun x hx => by
    rcases List.mem_append.1 hx with hx | hx
    · exact List.mem_append_left _ (hm x hx)
    · exact List.mem_append_right _ hx
  exact ⟨h.below, h.size, Ths.of fun x hx => h.all.mem (hmm x hx), fun x hx => h.high x (hmm x hx), List.pairwise_append.2 ⟨hp.diff, d2, fun x hx y hy => d3 x (hm x hx) y hy⟩⟩
end
section
variable {P : Program} {Q : Exit → Act → World → Prop} {a a0 a' : Act} {w w' : World} {n : Nat} {D : List Tmp} {ops : Array Oper} {rest : List Oper} {o : Oper} {v : Value}
/-- A store into a block of one's own. -/
theorem Z43 {H : Nat} {A : World} {L : List Thing} {b off : Nat} {t : TypeId} {cs : Array Value} (O : OwnT H A L w) (i : Nat) (hi : L[i]? = some (tBlk b t cs)) (hE : Env a0 D a) (hd : o.dst = none) (hg : o.guard = none)
    (h : (execOp a.eval o).run P w = .ok .skip (w.setCell ⟨b, off, none⟩ v)) (hk : ∀ w', OwnT H A (L.set i (tBlk b t (cs.setIfInBounds off v))) w' → wpList P ops Q rest a w') : wpList P ops Q (o :: rest) a w :=
  Z0y hE hd hg h (hk _ (OwnT.push i hi ((OwnT.pull O i hi).set off v)))
/-- A new block. -/
theorem Z1a {H : Nat} {A : World} {L : List Thing} {t : TypeId} {cs : Array Value} (O : OwnT H A L w) (d : Tmp) (hE : Env a0 D a) (k : Fr n a0) (hd : o.dst = some d) (hn : Nat.blt d n = true) (hD : D.contains d = true) (hg : o.guard = none)
    (h : (execOp a.eval o).run P w = .ok (.value (.pointer (some ⟨w.heap.size, 0, none⟩))) (w.alloc (.cells cs t)))
    (hk : ∀ g a' w', OwnT H A (tBlk g t cs :: L) w' → Env a0 D a' → a'.eval (.tmp d) = .pointer (some ⟨g, 0, none⟩) → (∀ t, Nat.beq t d = false → a'.eval (.tmp t) = a.eval (.tmp t)) → wpList P ops Q rest a' w') : wpList P ops Q (o :: rest) a w :=
  Z1y d hE k hd hn hD hg h (fun a' h1 h2 h3 => hk _ a' _ (O.new t cs) h1 h2 h3)
/-- .. and nothing else has turned. -/
theorem Z79 {H : Nat} {A : World} {L : List Thing} {t : TypeId} {cs : Array Value} (O : OwnT H A L w) (d : Tmp) (hE : Env a0 D a) (k : Fr n a0) (hd : o.dst = some d) (hn : Nat.blt d n = true) (hD : D.contains d = true) (hg : o.guard = none)
    (h : (execOp a.eval o).run P w = .ok (.value (.pointer (some ⟨w.heap.size, 0, none⟩))) (w.alloc (.cells cs t)))
    (hk : ∀ g a' w', Ext w w' → OwnT H A (tBlk g t cs :: L) w' → Env a0 D a' → a'.eval (.tmp d) = .pointer (some ⟨g, 0, none⟩) → (∀ t, Nat.beq t d = false → a'.eval (.tmp t) = a.eval (.tmp t)) → wpList P ops Q rest a' w') : wpList P ops Q (o :: rest) a w :=
  Z1y d hE k hd hn hD hg h (fun a' h1 h2 h3 => hk _ a' _ (Ext.alloc w _) (O.new t cs) h1 h2 h3)
theorem Z4a {H : Nat} {A : World} {L : List Thing} {t : TypeId} {cs : Array Value} {m c : Nat} (O : OwnT H A L w) (d : Tmp) (hE : Env a0 D a) (k : Fr n a0) (hd : o.dst = some d) (hn : Nat.blt d n = true) (hD : D.contains d = true) (hg : o.guard = none)
    (h : (execOp a.eval o).run P w = .ok (.value (.slice (some ⟨w.heap.size, 0, none⟩) m c)) (w.alloc (.cells cs t)))
    (hk : ∀ g a' w', OwnT H A (tBlk g t cs :: L) w' → Env a0 D a' → a'.eval (.tmp d) = .slice (some ⟨g, 0, none⟩) m c → (∀ t, Nat.beq t d = false → a'.eval (.tmp t) = a.eval (.tmp t)) → wpList P ops Q rest a' w') : wpList P ops Q (o :: rest) a w :=
  Z1y d hE k hd hn hD hg h (fun a' h1 h2 h3 => hk _ a' _ (O.new t cs) h1 h2 h3)
/-- The last operation of a region whose others are done. -/
theorem last_store {H : Nat} {A : World} {L : List Thing} {b off : Nat} {t : TypeId} {cs : Array Value} (O : OwnT H A L w) (i : Nat) (hi : L[i]? = some (tBlk b t cs)) (hd : o.dst = none)
    (h : (execOp a.eval o).run P w = .ok .skip (w.setCell ⟨b, off, none⟩ v)) (hk : ∀ w', OwnT H A (L.set i (tBlk b t (cs.setIfInBounds off v))) w' → Q .normal a w') : o.wp P a w (fun a w => Q .normal a w) Q := by
  refine Z1e h ?_
  rw [hd]
  exact hk _ (OwnT.push i hi ((OwnT.pull O i hi).set off v))
theorem Env.mono {D' : List Tmp} (hE : Env a0 D a) (h : D.all (fun d => D'.contains d) = true) : Env a0 D' a :=
  ⟨hE.size, hE.defers, fun t ht => hE.keep t (fun hd => ht (by have := List.all_eq_true.1 h t hd; simpa using this))⟩
theorem Z7z {ρ : Operand → Value} {x y : Operand} {t t' : TypeId} {u u' : Value} (ho : o.op = .call { callee := .builtin .append, args := #[x, y], argTypes := #[t, t'] }) (hx : ρ x = u) (hy : ρ y = u') (hr : (Builtin.append_ #[t, t'] o.type #[u, u']).run P w = .ok v w') :
    (execOp ρ o).run P w = .ok (.value v) w' := by
  unfold execOp
  simp only [ho, resolve, invoke, builtin, Sem.run_bind, Sem.run_pure, Result.andThen_ok, List.map_toArray, List.map_cons, List.map_nil, hx, hy, hr]
end
/-! Short forms. -/
section
variable {P : Program} {Q : Exit → Act → World → Prop} {a a0 : Act} {w : World} {n : Nat} {D : List Tmp} {ops : Array Oper} {rest : List Oper} {o : Oper} {v : Value}
theorem sd (d : Tmp) (hE : Env a0 D a) (k : Fr n a0) (h : (execOp a.eval o).run P w = .ok (.value v) w)
    (hk : ∀ a', Env a0 D a' → a'.eval (.tmp d) = v → (∀ t, Nat.beq t d = false → a'.eval (.tmp t) = a.eval (.tmp t)) → wpList P ops Q rest a' w)
    (hd : o.dst = some d := by rfl) (hn : Nat.blt d n = true := by rfl) (hD : D.contains d = true := by rfl) (hg : o.guard = none := by rfl) : wpList P ops Q (o :: rest) a w := Z1y d hE k hd hn hD hg h hk
theorem bd {w0 : World} {A : List (List Nat)} {G : List (Nat × TFact Ext) → Prop} {i : Nat} {os : List Oper} {done : List (Nat × TFact Ext)} (d : Tmp) (k : Fr n a0) (hd : o.dst = some d) (hn : Nat.blt d n = true) (hg : o.guard = none)
    (h : ∀ a w, Env a0 D a → Ext w0 w → (∀ (j : Nat) (S' : TFact Ext), j ∈ A.getD i [] → (j, S') ∈ done → S'.T a w) → (execOp a.eval o).run P w = .ok (.value v) w)
    (hr : Build P ops Ext w0 a0 D A G (i + 1) os ((i, det d v) :: done)) : Build P ops Ext w0 a0 D A G i (o :: os) done :=
  Build.det d Ext.refl hd (by rw [k.size]; exact hn) hg h hr
theorem bdg {w0 : World} {A : List (List Nat)} {G : List (Nat × TFact Ext) → Prop} {i : Nat} {os : List Oper} {done : List (Nat × TFact Ext)} {j dj : Nat} {b : Bool} (d : Tmp) (k : Fr n a0) (hd : o.dst = some d) (hn : Nat.blt d n = true) (hg : o.guard = some (j, b)) (hj : (ops[j]?).bind (·.dst) = some dj)
    (h : ∀ a w, Env a0 D a → Ext w0 w → (∀ (j : Nat) (S' : TFact Ext), j ∈ A.getD i [] → (j, S') ∈ done → S'.T a w) → a.eval (.tmp dj) = .bool b ∧ (execOp a.eval o).run P w = .ok (.value v) w)
    (hr : Build P ops Ext w0 a0 D A G (i + 1) os ((i, det d v) :: done)) : Build P ops Ext w0 a0 D A G i (o :: os) done :=
  Build.detg d Ext.refl hd (by rw [k.size]; exact hn) hg hj h hr
theorem kt {a' : Act} {d t : Tmp} (kp : ∀ t, Nat.beq t d = false → a'.eval (.tmp t) = a.eval (.tmp t)) (e : a.eval (.tmp t) = v) (h : Nat.beq t d = false := by rfl) : a'.eval (.tmp t) = v := (kp t h).trans e
theorem Env.g {t : Tmp} (hE : Env a0 D a) (e : a0.eval (.tmp t) = v) (h : D.contains t = false := by rfl) : a.eval (.tmp t) = v := hE.eval t h e
theorem zm {t : Tmp} (d : Tmp) (hE : Env a0 D a) (k : Fr n a0) (e : a0.eval (.tmp t) = v)
    (hk : ∀ a', Env a0 D a' → a'.eval (.tmp d) = v → (∀ t, Nat.beq t d = false → a'.eval (.tmp t) = a.eval (.tmp t)) → wpList P ops Q rest a' w)
    (ho : o.op = .move (.tmp t) := by rfl) (ht : D.contains t = false := by rfl) (hd : o.dst = some d := by rfl) (hn : Nat.blt d n = true := by rfl) (hD : D.contains d = true := by rfl) (hg : o.guard = none := by rfl) : wpList P ops Q (o :: rest) a w := Z1y d hE k hd hn hD hg (Z03 ho (hE.eval t ht e)) hk
end
theorem ml0 {α : Type _} {x : α} {l : List α} : x ∈ x :: l := .head _
theorem ml1 {α : Type _} {x y0 : α} {l : List α} : x ∈ y0 :: x :: l := .tail _ ml0
theorem ml2 {α : Type _} {x y0 y1 : α} {l : List α} : x ∈ y0 :: y1 :: x :: l := .tail _ ml1
theorem ml3 {α : Type _} {x y0 y1 y2 : α} {l : List α} : x ∈ y0 :: y1 :: y2 :: x :: l := .tail _ ml2
theorem ml4 {α : Type _} {x y0 y1 y2 y3 : α} {l : List α} : x ∈ y0 :: y1 :: y2 :: y3 :: x :: l := .tail _ ml3
theorem ml5 {α : Type _} {x y0 y1 y2 y3 y4 : α} {l : List α} : x ∈ y0 :: y1 :: y2 :: y3 :: y4 :: x :: l := .tail _ ml4
theorem ml6 {α : Type _} {x y0 y1 y2 y3 y4 y5 : α} {l : List α} : x ∈ y0 :: y1 :: y2 :: y3 :: y4 :: y5 :: x :: l := .tail _ ml5
theorem ml7 {α : Type _} {x y0 y1 y2 y3 y4 y5 y6 : α} {l : List α} : x ∈ y0 :: y1 :: y2 :: y3 :: y4 :: y5 :: y6 :: x :: l := .tail _ ml6
theorem ml8 {α : Type _} {x y0 y1 y2 y3 y4 y5 y6 y7 : α} {l : List α} : x ∈ y0 :: y1 :: y2 :: y3 :: y4 :: y5 :: y6 :: y7 :: x :: l := .tail _ ml7
theorem zhF {R : World → World → Prop} {X : List Nat} {done : List (Nat × TFact R)} {a : Act} {w : World} {v : Value} (hF : ∀ (j : Nat) (S' : TFact R), j ∈ X → (j, S') ∈ done → S'.T a w) (i : Nat) (d : Tmp) (m : (i, det d v) ∈ done) (h : i ∈ X := by decide) : a.eval (.tmp d) = v := hF i _ h m
end Go.Proofs.YtakkhglbdljfiaaGreatDoor
