/- The blocks of one's own, as one fact: what each holds; below H all is as it was. -/
import Derived.Test.YtbfgacmfjfbooaaKReachExact00
import Derived.Deep.MidRow
import Derived.Laws.CopyOwn
import Derived.Laws.OwnMore
import Derived.Lib.AppendZerosOnto
import Derived.Maps.RangeWalk
import Derived.Maps.OwnSet
import Derived.Maps.OwnOps
namespace Go.Proofs.Ytbfgacmfjfbooaa
set_option linter.unusedVariables false
set_option linter.unusedSimpArgs false
open Go.RowKit

abbrev BlkD := Nat × TypeId × Array Value
def Blks (w : World) : List BlkD → Prop
  | [] => True
  | x :: L => Blk w x.1 x.2.1 x.2.2 ∧ Blks w L
/-- Below H the world is as A; the blocks of L, from H on, hold this; no two are one. -/
structure Own (H : Nat) (A : World) (L : List BlkD) (w : World) : Prop where
  below : Below H A w
  size : H ≤ w.heap.size
  all : Blks w L
  high : ∀ x ∈ L, H ≤ x.1
  diff : L.Pairwise fun x y => x.1 ≠ y.1
section
variable {H : Nat} {A w w' : World} {L : List BlkD}
theorem Blks.mono_ (h : Blks w L) (k : ∀ x ∈ L, Blk w x.1 x.2.1 x.2.2 → Blk w' x.1 x.2.1 x.2.2) : Blks w' L := by
  induction L with
  | nil => trivial
  | cons x L ih => exact ⟨k x (by simp) h.1, ih h.2 (fun y hy => k y (by simp [hy]))⟩
theorem Blks.mem (h : Blks w L) {x : BlkD} (hx : x ∈ L) : Blk w x.1 x.2.1 x.2.2 := by
  induction L with
  | nil => cases hx
  | cons y L ih =>
    rcases List.mem_cons.1 hx with rfl | hx
    · exact h.1
    · exact ih h.2 hx
theorem Own.start (w : World) : Own w.heap.size w [] w := ⟨Below.refl _ _, Nat.le_refl _, trivial, (fun _ h => by cases h), List.Pairwise.nil⟩
theorem Own.ext (h : Own H A L w) (k : Ext w w') : Own H A L w' :=
  ⟨h.below.trans (k.mono h.size), Nat.le_trans h.size k.size, h.all.mono_ fun _ _ hb => hb.ext k, h.high, h.diff⟩
theorem Own.lt (h : Own H A L w) {x : BlkD} (hx : x ∈ L) : x.1 < w.heap.size := (h.all.mem hx).lt
theorem Own.drew (h : Own H A L w) : Own H A L w.drew := h.ext (Ext.drew w)
theorem Own.new (h : Own H A L w) (t : TypeId) (cs : Array Value) : Own H A ((w.heap.size, t, cs) :: L) (w.alloc (.cells cs t)) := by
  have h1 := h.ext (Ext.alloc w (.cells cs t))
  refine ⟨h1.below, h1.size, ⟨Blk.new w t cs, h1.all⟩, fun x hx => ?_, ?_⟩
  · rcases List.mem_cons.1 hx with rfl | hx
    · exact h.size
    · exact h1.high x hx
  · exact List.Pairwise.cons (fun y hy e => by have := h.lt hy; simp only at e; omega) h.diff
theorem Own.other (h : Own H A L w) (o : Obj) : Own H A L (w.alloc o) := h.ext (Ext.alloc w o)
/-- The world with a block anew. -/
theorem Own.put (h : Own H A L w) {b : Nat} {t : TypeId} {cs : Array Value} {L1 L2 : List BlkD} (hL : L = L1 ++ (b, t, cs) :: L2) (cs' : Array Value) (hg : w.grownBy w' (some b)) (hb : Blk w' b t cs') : Own H A (L1 ++ (b, t, cs') :: L2) w' := by
  subst hL
  have hHb : H ≤ b := h.high (b, t, cs) (by simp)
  have hd := h.diff
  rw [List.pairwise_append] at hd
  obtain ⟨d1, d2, d3⟩ := hd
  rw [List.pairwise_cons] at d2
  have hfar : ∀ x ∈ L1 ++ L2, x.1 ≠ b := by
    intro x hx
    rcases List.mem_append.1 hx with hx | hx
    · exact d3 x hx (b, t, cs) (by simp)
    · exact (d2.1 x hx).symm
  have hmem : ∀ x ∈ L1 ++ L2, Blk w' x.1 x.2.1 x.2.2 := fun x hx => (h.all.mem (x := x) (by
    rcases List.mem_append.1 hx with hx | hx
    · simp [hx]
    · simp [hx])).grown hg (by simpa using hfar x hx)
  refine ⟨h.below.grown hg h.size (fun k e => by injection e with e; omega), Nat.le_trans h.size hg.size, ?_, ?_, ?_⟩
  · have : ∀ M : List BlkD, (∀ x ∈ M, Blk w' x.1 x.2.1 x.2.2) → Blks w' M := by
      intro M
      induction M with
      | nil => intro _; trivial
      | cons x M ih => intro hM; exact ⟨hM x (by simp), ih fun y hy => hM y (by simp [hy])⟩
    refine this _ fun x hx => ?_
    rcases List.mem_append.1 hx with hx | hx
    · exact hmem x (by simp [hx])
    · rcases List.mem_cons.1 hx with rfl | hx
      · exact hb
      · exact hmem x (by simp [hx])
  · intro x hx
    rcases List.mem_append.1 hx with hx | hx
    · exact h.high x (by simp [hx])
    · rcases List.mem_cons.1 hx with rfl | hx
      · exact hHb
      · exact h.high x (by simp [hx])
  · rw [List.pairwise_append]
    refine ⟨d1, List.pairwise_cons.2 ⟨d2.1, d2.2⟩, fun x hx y hy => ?_⟩
    rcases List.mem_cons.1 hy with rfl | hy
    · exact d3 x hx (b, t, cs) (by simp)
    · exact d3 x hx y (by simp [hy])
theorem Own.set (h : Own H A L w) {b : Nat} {t : TypeId} {cs : Array Value} {L1 L2 : List BlkD} (hL : L = L1 ++ (b, t, cs) :: L2) (i : Nat) (u : Value) : Own H A (L1 ++ (b, t, cs.setIfInBounds i u) :: L2) (w.setCell ⟨b, i, none⟩ u) :=
  h.put hL _ (Z1h (World.grownBy.refl w _) (.inl rfl) u) ((h.all.mem (x := (b, t, cs)) (by rw [hL]; simp) : Blk w b t cs).set_ i u)
/-- Another block of one's own has turned. -/
theorem Own.far (h : Own H A L w) {b : Nat} (hb : H ≤ b) (hL : ∀ x ∈ L, x.1 ≠ b) (hg : w.grownBy w' (some b)) : Own H A L w' :=
  ⟨h.below.grown hg h.size (fun k e => by injection e with e; omega), Nat.le_trans h.size hg.size, (by
    have h0 := h.all
    clear h
    induction L with
    | nil => trivial
    | cons x L ih => exact ⟨h0.1.grown hg (by have := hL x (by simp); simpa using this), ih (fun y hy => hL y (by simp [hy])) h0.2⟩), h.high, h.diff⟩
theorem Own.tail {x : BlkD} (h : Own H A (x :: L) w) : Own H A L w := ⟨h.below, h.size, h.all.2, fun y hy => h.high y (by simp [hy]), (List.pairwise_cons.1 h.diff).2⟩
theorem Own.done (h : Own w'.heap.size w' L w) : Below w'.heap.size w' w := h.below
end

/-- Only the blocks of F, and what is new, have turned. -/
structure Chg (F : List Nat) (w w' : World) : Prop where
  os : w'.os = w.os
  tape : w'.tape = w.tape
  output : w'.output = w.output
  size : w.heap.size ≤ w'.heap.size
  block : ∀ i, i < w.heap.size → i ∉ F → w'.heap[i]? = w.heap[i]?
/-- What holds of the blocks 'foot', whatever becomes of others. -/
structure Thing where
  foot : List Nat
  holds : World → Prop
  keep : ∀ w w', w.heap.size ≤ w'.heap.size → (∀ i ∈ foot, w'.heap[i]? = w.heap[i]?) → holds w → holds w'
  lt : ∀ w, holds w → ∀ i ∈ foot, i < w.heap.size
  /-- The block of cells that it is, if it is one. -/
  blk : Option (Nat × TypeId × Array Value) := none
  blkOk : ∀ w b t cs, blk = some (b, t, cs) → holds w → Blk w b t cs := by simp
  blkFoot : ∀ b t cs, blk = some (b, t, cs) → foot = [b] := by simp
  /-- The first cells of a block that can be read. -/
  cel : Option (Nat × List Value) := none
  celOk : ∀ w b xs, cel = some (b, xs) → holds w → ∀ j v, xs[j]? = some v → w.cell? ⟨b, j, none⟩ = some v := by simp
  /-- A world: all of its blocks are as they were there. -/
  bas : Option World := none
  basOk : ∀ w A, bas = some A → holds w → ∀ i, i < A.heap.size → w.heap[i]? = A.heap[i]? := by simp
section
variable {F G : List Nat} {w w' w'' : World}
theorem Chg.refl (F : List Nat) (w : World) : Chg F w w := ⟨rfl, rfl, rfl, Nat.le_refl _, fun _ _ _ => rfl⟩
theorem Chg.trans (h : Chg F w w') (k : Chg F w' w'') : Chg F w w'' :=
  ⟨k.os.trans h.os, k.tape.trans h.tape, k.output.trans h.output, Nat.le_trans h.size k.size, fun i hi hn => (k.block i (Nat.lt_of_lt_of_le hi h.size) hn).trans (h.block i hi hn)⟩
/-- Behind a change, a change of what is new or was changed. -/
theorem Chg.trans' (h : Chg F w w') (k : Chg G w' w'') (hG : ∀ i ∈ G, i ∈ F ∨ w.heap.size ≤ i) : Chg F w w'' :=
  ⟨k.os.trans h.os, k.tape.trans h.tape, k.output.trans h.output, Nat.le_trans h.size k.size, fun i hi hn => (k.block i (Nat.lt_of_lt_of_le hi h.size) (fun hg => by
    rcases hG i hg with h1 | h1
    · exact hn h1
    · omega)).trans (h.block i hi hn)⟩
theorem Chg.mono (h : Chg F w w') (hF : ∀ i ∈ F, i ∈ G ∨ w.heap.size ≤ i) : Chg G w w' :=
  ⟨h.os, h.tape, h.output, h.size, fun i hi hn => h.block i hi (fun hf => by
    rcases hF i hf with h1 | h1
    · exact hn h1
    · omega)⟩
theorem Chg.of_ext (h : Ext w w') (F : List Nat) : Chg F w w' := ⟨h.os, h.tape, h.output, h.size, fun i hi _ => h.block i hi⟩
theorem Chg.ext (h : Chg [] w w') : Ext w w' := ⟨h.os, h.tape, h.output, h.size, fun i hi => h.block i hi (by simp)⟩
theorem Chg.of_grown {b : Nat} (h : w.grownBy w' (some b)) : Chg [b] w w' := ⟨h.os, h.tape, h.output, h.size, fun i hi hn => h.block i hi (by simpa using hn)⟩
theorem Chg.grown {b : Nat} (h : Chg [b] w w') : w.grownBy w' (some b) := ⟨h.os, h.tape, h.output, h.size, fun i hi hn => h.block i hi (by simpa using hn)⟩
theorem Chg.drew (h : Chg F w w') : Chg F w w'.drew := ⟨h.os, h.tape, h.output, h.size, h.block⟩
theorem Chg.alloc (h : Chg F w w') (o : Obj) : Chg F w (w'.alloc o) := h.trans (Chg.of_ext (Ext.alloc w' o) F)
theorem Chg.set (h : Chg F w w') {p : Addr} (hp : p.block ∈ F ∨ w.heap.size ≤ p.block) (u : Value) : Chg F w (w'.setCell p u) :=
  h.trans' (G := [p.block]) (Chg.of_grown (Z1h (World.grownBy.refl w' _) (.inl rfl) u)) (fun i hi => by
    simp at hi
    subst hi
    exact hp)
theorem Chg.blk (h : Chg F w w') {g : Nat} {t : TypeId} {cs : Array Value} (hb : Blk w g t cs) (hg : g ∉ F) : Blk w' g t cs := (h.block g hb.lt hg).trans hb
theorem Chg.below {H : Nat} {A : World} (h : Chg F w w') (hb : Below H A w) (hs : H ≤ w.heap.size) (hF : ∀ i ∈ F, H ≤ i) : Below H A w' :=
  ⟨h.os.trans hb.os, h.tape.trans hb.tape, h.output.trans hb.output, Nat.le_trans hb.size h.size, fun i hi => (h.block i (by omega) (fun hf => by have := hF i hf; omega)).trans (hb.block i hi)⟩
end
/-- A block of cells. -/
def tBlk (b : Nat) (t : TypeId) (cs : Array Value) : Thing where
  foot := [b]
  holds := fun w => Blk w b t cs
  keep := fun w w' _ h hb => (h b (by simp)).trans hb
  lt := fun w h i hi => by simp at hi; subst hi; exact h.lt
  blk := some (b, t, cs)
  blkOk := fun _ _ _ _ e h => by cases e; exact h
  blkFoot := fun _ _ _ e => by cases e; rfl
  cel := some (b, cs.toList)
  celOk := fun w _ _ e h j v hv => by cases e; rw [h.cell]; simpa using hv

def Ths (w : World) : List Thing → Prop
  | [] => True
  | x :: L => x.holds w ∧ Ths w L
structure OwnT (H : Nat) (A : World) (L : List Thing) (w : World) : Prop where
  below : Below H A w
  size : H ≤ w.heap.size
  all : Ths w L
  high : ∀ x ∈ L, ∀ i ∈ x.foot, H ≤ i
  diff : L.Pairwise fun x y => ∀ i ∈ x.foot, i ∉ y.foot
section
variable {H : Nat} {A w w' : World} {L L1 L2 : List Thing} {T T' : Thing} {F : List Nat}
theorem Ths.mem (h : Ths w L) (hx : T ∈ L) : T.holds w := by
  induction L with
  | nil => cases hx
  | cons y L ih =>
    rcases List.mem_cons.1 hx with rfl | hx
    · exact h.1
    · exact ih h.2 hx
theorem Ths.of (h : ∀ x ∈ L, x.holds w) : Ths w L := by
  induction L with
  | nil => trivial
  | cons x L ih => exact ⟨h x (by simp), ih fun y hy => h y (by simp [hy])⟩
theorem OwnT.start (w : World) : OwnT w.heap.size w [] w := ⟨Below.refl _ _, Nat.le_refl _, trivial, (fun _ h => by cases h), List.Pairwise.nil⟩
theorem OwnT.lt (h : OwnT H A L w) (hx : T ∈ L) {i : Nat} (hi : i ∈ T.foot) : i < w.heap.size := T.lt w (h.all.mem hx) i hi
theorem OwnT.at_ (h : OwnT H A L w) (hx : T ∈ L) : T.holds w := h.all.mem hx
theorem OwnT.t0 (h : OwnT H A (T :: L) w) : T.holds w := h.all.1
theorem OwnT.t1 {X : Thing} (h : OwnT H A (X :: T :: L) w) : T.holds w := h.all.2.1
theorem OwnT.t2 {X Y : Thing} (h : OwnT H A (X :: Y :: T :: L) w) : T.holds w := h.all.2.2.1
theorem OwnT.t3 {X Y Z : Thing} (h : OwnT H A (X :: Y :: Z :: T :: L) w) : T.holds w := h.all.2.2.2.1
theorem OwnT.t4 {X Y Z U : Thing} (h : OwnT H A (X :: Y :: Z :: U :: T :: L) w) : T.holds w := h.all.2.2.2.2.1
theorem OwnT.t5 {X Y Z U V : Thing} (h : OwnT H A (X :: Y :: Z :: U :: V :: T :: L) w) : T.holds w := h.all.2.2.2.2.2.1
/-- What is not of F stays. -/
theorem Thing.chg (T : Thing) (h : T.holds w) (k : Chg F w w') (hF : ∀ i ∈ T.foot, i ∉ F) : T.holds w' :=
  T.keep w w' k.size (fun i hi => k.block i (T.lt w h i hi) (hF i hi)) h
theorem OwnT.ext (h : OwnT H A L w) (k : Ext w w') : OwnT H A L w' :=
  ⟨h.below.trans (k.mono h.size), Nat.le_trans h.size k.size, Ths.of fun x hx => x.chg (h.all.mem hx) (Chg.of_ext k []) (by simp), h.high, h.diff⟩
theorem OwnT.drew (h : OwnT H A L w) : OwnT H A L w.drew := h.ext (Ext.drew w)
theorem OwnT.other (h : OwnT H A L w) (o : Obj) : OwnT H A L (w.alloc o) := h.ext (Ext.alloc w o)
theorem OwnT.perm (h : OwnT H A L w) {M : List Thing} (hp : L.Perm M) : OwnT H A M w :=
  ⟨h.below, h.size, Ths.of fun x hx => h.all.mem (hp.mem_iff.2 hx), fun x hx => h.high x (hp.mem_iff.2 hx),
   hp.pairwise h.diff (fun {x y} hxy i hi hj => hxy i hj hi)⟩
theorem OwnT.sub (h : OwnT H A L w) {M : List Thing} (hp : M.Sublist L) : OwnT H A M w :=
  ⟨h.below, h.size, Ths.of fun x hx => h.all.mem (hp.subset hx), fun x hx => h.high x (hp.subset hx), h.diff.sublist hp⟩
theorem OwnT.tail (h : OwnT H A (T :: L) w) : OwnT H A L w := h.sub (List.sublist_cons_self T L)
/-- The thing there comes to the front. -/
theorem OwnT.front (h : OwnT H A L w) (L1 : List Thing) (hL : L = L1 ++ T :: L2) : OwnT H A (T :: (L1 ++ L2)) w := h.perm (hL ▸ List.perm_middle)
/-- A new thing. -/
theorem OwnT.cons (h : OwnT H A L w) (k : Ext w w') (T : Thing) (hT : T.holds w') (hf : ∀ i ∈ T.foot, w.heap.size ≤ i) : OwnT H A (T :: L) w' := by
  have h1 := h.ext k
  refine ⟨h1.below, h1.size, ⟨hT, h1.all⟩, fun x hx i hi => ?_, List.Pairwise.cons (fun y hy i hi hj => ?_) h.diff⟩
  · rcases List.mem_cons.1 hx with rfl | hx
    · have := hf i hi; have := h.size; omega
    · exact h.high x hx i hi
  · have := hf i hi
    have := h.lt hy hj
    omega
theorem OwnT.new (h : OwnT H A L w) (t : TypeId) (cs : Array Value) : OwnT H A (tBlk w.heap.size t cs :: L) (w.alloc (.cells cs t)) :=
  h.cons (Ext.alloc w _) (tBlk w.heap.size t cs) (Blk.new w t cs) (fun i hi => by simp [tBlk] at hi; omega)
/-- The first thing has turned, and what is new. -/
theorem OwnT.call (h : OwnT H A (T :: L) w) (k : Chg F w w') (hF : ∀ i ∈ F, i ∈ T.foot) (T' : Thing) (hT : T'.holds w') (hf : ∀ i ∈ T'.foot, i ∈ T.foot ∨ w.heap.size ≤ i) : OwnT H A (T' :: L) w' := by
  have hd := List.pairwise_cons.1 h.diff
  refine ⟨k.below h.below h.size (fun i hi => h.high T (by simp) i (hF i hi)), Nat.le_trans h.size k.size, ⟨hT, Ths.of fun x hx => x.chg (h.all.mem (by simp [hx])) k (fun i hi hf => hd.1 x hx i (hF i hf) hi)⟩, fun x hx i hi => ?_, List.Pairwise.cons (fun y hy i hi hj => ?_) hd.2⟩
  · rcases List.mem_cons.1 hx with rfl | hx
    · rcases hf i hi with h1 | h1
      · exact h.high T (by simp) i h1
      · have := h.size; omega
    · exact h.high x (by simp [hx]) i hi
  · rcases hf i hi with h1 | h1
    · exact hd.1 y hy i h1 hj
    · have := h.lt (T := y) (by simp [hy]) hj
      omega
/-- A cell of a block. -/
theorem OwnT.set {b : Nat} {t : TypeId} {cs : Array Value} (h : OwnT H A (tBlk b t cs :: L) w) (i : Nat) (u : Value) : OwnT H A (tBlk b t (cs.setIfInBounds i u) :: L) (w.setCell ⟨b, i, none⟩ u) :=
  h.call (F := [b]) (Chg.of_grown (Z1h (World.grownBy.refl w _) (.inl rfl) u)) (fun i hi => by simpa [tBlk] using hi) (tBlk b t (cs.setIfInBounds i u)) ((h.all.1 : Blk w b t cs).set_ i u) (fun i hi => .inl (by simpa [tBlk] using hi))
end

structure Fr (n : Nat) (a : Act) : Prop where
  size : a.tmps.size = n
  defers : a.defers = []
section
variable {P : Program} {Q : Exit → Act → World → Prop} {next : Act → World → Prop} {a a0 a' : Act} {w w' w0 : World} {n id id' : Nat} {D : List Tmp} {fn : Func} {R : Ending → World → Prop}
theorem Fr.env (k : Fr n a0) (h : Env a0 D a) : Fr n a := ⟨h.size.trans k.size, h.defers.trans k.defers⟩
theorem Env.refl (a : Act) (D : List Tmp) : Env a D a := ⟨rfl, rfl, fun _ _ => rfl⟩
theorem Z00 (h : next a w) : Exit.then next Q .normal a w := h
theorem Z1g (h : Q (.exit id) a w) : Exit.then next Q (.exit id) a w := h
theorem Z0o (h : Q .ret a w) : Exit.then next Q .ret a w := h
theorem Z0u (h : Q .normal a w) : Exit.inBlock id Q .normal a w := h
theorem Z1q (h : Q .normal a w) : Exit.inBlock id Q (.exit id) a w := by
  simp only [Exit.inBlock, if_true]
  exact h
theorem block_o (hne : Nat.beq id' id = false) (h : Q (.exit id') a w) : Exit.inBlock id Q (.exit id') a w := by
  simp only [Exit.inBlock]
  rw [if_neg (Nat.ne_of_beq_eq_false hne)]
  exact h
theorem Z1l (h : Q .ret a w) : Exit.inBlock id Q .ret a w := h
theorem Z0a {f : FuncId} {c : Code} {args : Array Value} (hf : P.funcs[f]? = some fn) (hb : fn.body = some c) (n : Nat) (hn : fn.ntmps = n) (hle : Nat.ble args.size n = true)
    (h : ∀ a, Fr n a → (∀ i v, args[i]? = some v → a.eval (.tmp i) = v) → c.wp P (bodyPost P fn R) a w) : Calls P f args w R := by
  refine calls_of_wp hf hb (h _ ⟨?_, rfl⟩ fun i v hv => ?_)
  · have := Nat.le_of_ble_eq_true hle
    subst hn
    simp only [Array.size_append, Array.size_replicate]
    omega
  · have hi : i < args.size := (Array.getElem?_eq_some_iff.1 hv).1
    rw [Z1b, Array.getD_eq_getD_getElem?, Array.getElem?_append_left hi, hv]
    rfl
theorem Z0v {t : Tmp} {v : Value} (hr : fn.results = #[.tmp t]) (k : Fr n a) (e : a.eval (.tmp t) = v) (h : R (.returned v) w) : bodyPost P fn R .ret a w := by
  refine bodyPost_ret (v := v) ?_ k.defers h
  rw [← e, Z1b]
  simp [results, hr]
theorem Z1p {t u : Tmp} {v x : Value} (hr : fn.results = #[.tmp t, .tmp u]) (k : Fr n a) (e : a.eval (.tmp t) = v) (e' : a.eval (.tmp u) = x) (h : R (.returned (.tuple #[v, x])) w) : bodyPost P fn R .ret a w := by
  refine bodyPost_ret (v := .tuple #[v, x]) ?_ k.defers h
  rw [← e, ← e', Z1b, Z1b]
  simp [results, hr]
/-- Results that lie in a cell: the first one. -/
theorem Z3a {t u : Tmp} {T : TypeId} {v x : Value} {p : Addr} (hr : fn.results = #[.cell t T, .tmp u]) (k : Fr n a) (e : a.eval (.tmp t) = .pointer (some p)) (e' : a.eval (.tmp u) = x) (hl : (loadVar T p).run P w = .ok v w) (h : R (.returned (.tuple #[v, x])) w) : bodyPost P fn R .ret a w := by
  refine bodyPost_ret (v := .tuple #[v, x]) ?_ k.defers h
  simp only [Z1b, Array.getD_eq_getD_getElem?] at e e'
  simp [results, hr, e, e', hl, asAddr]
theorem Z7n {t u s : Tmp} {v x y : Value} (hr : fn.results = #[.tmp t, .tmp u, .tmp s]) (k : Fr n a) (e : a.eval (.tmp t) = v) (e' : a.eval (.tmp u) = x) (e'' : a.eval (.tmp s) = y) (h : R (.returned (.tuple #[v, x, y])) w) : bodyPost P fn R .ret a w := by
  refine bodyPost_ret (v := .tuple #[v, x, y]) ?_ k.defers h
  simp only [Z1b, Array.getD_eq_getD_getElem?] at e e' e''
  simp [results, hr, e, e', e'']
theorem ret_F0 (hr : fn.results = #[]) (k : Fr n a) (h : R (.returned (.tuple #[])) w) : bodyPost P fn R .ret a w :=
  bodyPost_ret (results_none hr _ _ _) k.defers h
theorem end_F0 (hr : fn.results = #[]) (k : Fr n a) (h : R (.returned (.tuple #[])) w) : bodyPost P fn R .normal a w :=
  bodyPost_end (results_none hr _ _ _) k.defers h
theorem Z0h {c : Operand} {x y : Code} {v : Value} (hc : a.eval c = v) (hv : v = .bool true) (h : x.wp P Q a w) : (Code.cond c x y).wp P Q a w := wp_cond_true (hc.trans hv) h
theorem Z06 {c : Operand} {x y : Code} {v : Value} (hc : a.eval c = v) (hv : v = .bool false) (h : y.wp P Q a w) : (Code.cond c x y).wp P Q a w := wp_cond_false (hc.trans hv) h
/-! Operations, in order. -/
variable {ops : Array Oper} {rest : List Oper} {o : Oper} {v : Value}
theorem Env.put (hE : Env a0 D a) {d : Tmp} (hD : D.contains d = true) (v : Value) : Env a0 D (a.put (some d) v) := by
  obtain ⟨h1, h2, h3⟩ := hE
  refine ⟨by simp [Act.put, h1], h2, fun t ht => ?_⟩
  have : d ≠ t := fun e => ht (by subst e; simpa using hD)
  rw [← h3 t ht]
  simp [Act.put, Array.getElem?_setIfInBounds_ne this]
theorem Z10 {d t : Tmp} (h : Nat.beq t d = false) (v : Value) : (a.put (some d) v).eval (.tmp t) = a.eval (.tmp t) := by
  have : d ≠ t := fun e => Nat.ne_of_beq_eq_false h e.symm
  simp [Act.put, Z1b, Array.getD_eq_getD_getElem?, Array.getElem?_setIfInBounds_ne this]
theorem Z1r (d : Tmp) (hE : Env a0 D a) (k : Fr n a0) (hd : o.dst = some d) (hn : Nat.blt d n = true) (hD : D.contains d = true) (hg : o.guard = none)
    (h : (execOp a.eval o).run P w = .ok (.value v) w')
    (hk : ∀ a', Env a0 D a' → a'.eval (.tmp d) = v → (∀ t, Nat.beq t d = false → a'.eval (.tmp t) = a.eval (.tmp t)) → wpList P ops Q rest a' w') : wpList P ops Q (o :: rest) a w := by
  refine wpList_plain hg fun K hK => Z0z h (hK _ _ ?_)
  rw [hd]
  exact hk _ (hE.put hD v) (Z0g (by rw [hE.size, k.size]; exact Nat.le_of_ble_eq_true hn)) (fun t ht => Z10 ht v)
theorem Z03 (d : Tmp) (hE : Env a0 D a) (k : Fr n a0) (hd : o.dst = some d) (hn : Nat.blt d n = true) (hD : D.contains d = true) (hg : o.guard = none)
    (h : (execOp a.eval o).run P w = .ok (.value v) w)
    (hk : ∀ a', Env a0 D a' → a'.eval (.tmp d) = v → (∀ t, Nat.beq t d = false → a'.eval (.tmp t) = a.eval (.tmp t)) → wpList P ops Q rest a' w) : wpList P ops Q (o :: rest) a w := Z1r d hE k hd hn hD hg h hk
theorem Z51 (hE : Env a0 D a) (hd : o.dst = none) (hg : o.guard = none) (h : (execOp a.eval o).run P w = .ok .skip w') (hk : wpList P ops Q rest a w') : wpList P ops Q (o :: rest) a w := by
  refine wpList_plain hg fun K hK => Z1t h (hK _ _ ?_)
  rw [hd]
  exact hk
theorem Z09 {f : FuncId} {args : Array Value} {S : Ending → World → Prop} (d : Tmp) (hE : Env a0 D a) (k : Fr n a0) (hd : o.dst = some d) (hn : Nat.blt d n = true) (hD : D.contains d = true) (hg : o.guard = none)
    (h : (execOp a.eval o).run P w = .ok (.enter f args) w) (hc : Calls P f args w S)
    (hk : ∀ e w'', S e w'' → ∃ v, e = .returned v ∧ ∀ a', Env a0 D a' → a'.eval (.tmp d) = v → (∀ t, Nat.beq t d = false → a'.eval (.tmp t) = a.eval (.tmp t)) → wpList P ops Q rest a' w'') : wpList P ops Q (o :: rest) a w := by
  refine wpList_plain hg fun K hK => Z21 h hc fun e w'' hS => ?_
  obtain ⟨v, he, hk⟩ := hk e w'' hS
  refine ⟨v, he, hK _ _ ?_⟩
  rw [hd]
  exact hk _ (hE.put hD v) (Z0g (by rw [hE.size, k.size]; exact Nat.le_of_ble_eq_true hn)) (fun t ht => Z10 ht v)
theorem sq_valg {j dj : Nat} {b : Bool} (d : Tmp) (hE : Env a0 D a) (k : Fr n a0) (hd : o.dst = some d) (hn : Nat.blt d n = true) (hD : D.contains d = true) (hg : o.guard = some (j, b)) (hj : (ops[j]?).bind (·.dst) = some dj) (hb : a.eval (.tmp dj) = .bool b)
    (h : (execOp a.eval o).run P w = .ok (.value v) w')
    (hk : ∀ a', Env a0 D a' → a'.eval (.tmp d) = v → (∀ t, Nat.beq t d = false → a'.eval (.tmp t) = a.eval (.tmp t)) → wpList P ops Q rest a' w') : wpList P ops Q (o :: rest) a w := by
  refine wpList_step fun K hK => ?_
  rw [if_pos ((Z14 hg hj hb).trans (by simp))]
  refine Z0z h (hK _ _ ?_)
  rw [hd]
  exact hk _ (hE.put hD v) (Z0g (by rw [hE.size, k.size]; exact Nat.le_of_ble_eq_true hn)) (fun t ht => Z10 ht v)
theorem Z04 {j dj : Nat} {b : Bool} (d : Tmp) (hE : Env a0 D a) (k : Fr n a0) (hd : o.dst = some d) (hn : Nat.blt d n = true) (hD : D.contains d = true) (hg : o.guard = some (j, b)) (hj : (ops[j]?).bind (·.dst) = some dj) (hb : a.eval (.tmp dj) = .bool b)
    (h : (execOp a.eval o).run P w = .ok (.value v) w)
    (hk : ∀ a', Env a0 D a' → a'.eval (.tmp d) = v → (∀ t, Nat.beq t d = false → a'.eval (.tmp t) = a.eval (.tmp t)) → wpList P ops Q rest a' w) : wpList P ops Q (o :: rest) a w := sq_valg d hE k hd hn hD hg hj hb h hk
theorem Z3l {j dj : Nat} {b : Bool} {f : FuncId} {args : Array Value} {S : Ending → World → Prop} (d : Tmp) (hE : Env a0 D a) (k : Fr n a0) (hd : o.dst = some d) (hn : Nat.blt d n = true) (hD : D.contains d = true) (hg : o.guard = some (j, b)) (hj : (ops[j]?).bind (·.dst) = some dj) (hb : a.eval (.tmp dj) = .bool b)
    (h : (execOp a.eval o).run P w = .ok (.enter f args) w) (hc : Calls P f args w S)
    (hk : ∀ e w'', S e w'' → ∃ v, e = .returned v ∧ ∀ a', Env a0 D a' → a'.eval (.tmp d) = v → (∀ t, Nat.beq t d = false → a'.eval (.tmp t) = a.eval (.tmp t)) → wpList P ops Q rest a' w'') : wpList P ops Q (o :: rest) a w := by
  refine wpList_step fun K hK => ?_
  rw [if_pos ((Z14 hg hj hb).trans (by simp))]
  refine Z21 h hc fun e w'' hS => ?_
  obtain ⟨v, he, hk⟩ := hk e w'' hS
  refine ⟨v, he, hK _ _ ?_⟩
  rw [hd]
  exact hk _ (hE.put hD v) (Z0g (by rw [hE.size, k.size]; exact Nat.le_of_ble_eq_true hn)) (fun t ht => Z10 ht v)
theorem Z0e {j dj : Nat} {b : Bool} (d : Tmp) (hE : Env a0 D a) (k : Fr n a0) (hd : o.dst = some d) (hn : Nat.blt d n = true) (hD : D.contains d = true) (hg : o.guard = some (j, b)) (hj : (ops[j]?).bind (·.dst) = some dj) (hb : a.eval (.tmp dj) = .bool (!b) ∨ a.eval (.tmp dj) = undef)
    (hk : ∀ a', Env a0 D a' → a'.eval (.tmp d) = undef → (∀ t, Nat.beq t d = false → a'.eval (.tmp t) = a.eval (.tmp t)) → wpList P ops Q rest a' w) : wpList P ops Q (o :: rest) a w := by
  refine wpList_step fun K hK => ?_
  have hw : Region.wanted o (yielded ops a.tmps) = false := by
    rcases hb with hb | hb
    · exact (Z14 hg hj hb).trans (by simp)
    · exact Z3e hg hj hb
  rw [hw]
  simp only [Bool.false_eq_true, if_false]
  refine hK _ _ ?_
  rw [hd]
  exact hk _ (hE.put hD undef) (Z0g (by rw [hE.size, k.size]; exact Nat.le_of_ble_eq_true hn)) (fun t ht => Z10 ht undef)
/-! What single operations yield. -/
variable {ρ : Operand → Value}
theorem Z02 {x : Operand} (ho : o.op = .move x) (hx : ρ x = v) : (execOp ρ o).run P w = .ok (.value v) w := by simp [execOp, ho, hx]
theorem Z01 {x : Operand} (ho : o.op = .assign x) (hx : ρ x = v) : (execOp ρ o).run P w = .ok (.value v) w := by simp [execOp, ho, hx]
theorem Z0n {c x y : Operand} (ho : o.op = .pick c x y) (hc : ρ c = .bool true) (hx : ρ x = v) : (execOp ρ o).run P w = .ok (.value v) w := by simp [execOp, ho, hc, hx, asBool]
theorem Z07 {c x y : Operand} (ho : o.op = .pick c x y) (hc : ρ c = .bool false) (hx : ρ y = v) : (execOp ρ o).run P w = .ok (.value v) w := by simp [execOp, ho, hc, hx, asBool]
theorem Z17 {x : Operand} {ad : Addr} (ho : o.op = .nilCheck x) (hx : ρ x = .pointer (some ad)) : (execOp ρ o).run P w = .ok (.value (.pointer (some ad))) w := by simp [execOp, ho, hx]
theorem Z36 {op : BinOp} {t u : TypeId} {x y : Operand} {k : IntKind} {m n : Int} (ho : o.op = .binOp op t x y u) (hx : ρ x = .int k m) (hy : ρ y = .int k n) (h : (binOp op t (.int k m) (.int k n)).run P w = .ok v w) : (execOp ρ o).run P w = .ok (.value v) w := by
  unfold execOp
  simp only [ho, hx, hy]
  have hg : (eqGuard op t x y (.int k m) (.int k n)).run P w = .ok () w := by
    cases op <;> simp [eqGuard]
  simp [hg, h]
section
variable {t u : TypeId} {x y : Operand} {k : IntKind} {m n : Int}
theorem Z11 (ho : o.op = .binOp .add t x y u) (hx : ρ x = .int .i64 m) (hy : ρ y = .int .i64 n) (h : -9223372036854775808 ≤ m + n ∧ m + n ≤ 9223372036854775807) : (execOp ρ o).run P w = .ok (.value (.int .i64 (m + n))) w :=
  Z36 ho hx hy (by simp [binOp, Op.intArith, IntWalk.i64_in _ h])
theorem Z5q (ho : o.op = .binOp .sub t x y u) (hx : ρ x = .int .i64 m) (hy : ρ y = .int .i64 n) (h : -9223372036854775808 ≤ m - n ∧ m - n ≤ 9223372036854775807) : (execOp ρ o).run P w = .ok (.value (.int .i64 (m - n))) w :=
  Z36 ho hx hy (by simp [binOp, Op.intArith, IntWalk.i64_in _ h])
theorem Z1d (ho : o.op = .binOp .lss t x y u) (hx : ρ x = .int k m) (hy : ρ y = .int k n) : (execOp ρ o).run P w = .ok (.value (.bool (decide (m < n)))) w := Z36 ho hx hy (by simp [binOp, Op.intCmp])
theorem x_leq (ho : o.op = .binOp .leq t x y u) (hx : ρ x = .int k m) (hy : ρ y = .int k n) : (execOp ρ o).run P w = .ok (.value (.bool (decide (m ≤ n)))) w := Z36 ho hx hy (by simp [binOp, Op.intCmp])
theorem Z2b (ho : o.op = .binOp .gtr t x y u) (hx : ρ x = .int k m) (hy : ρ y = .int k n) : (execOp ρ o).run P w = .ok (.value (.bool (decide (n < m)))) w := Z36 ho hx hy (by simp [binOp, Op.intCmp])
theorem Z6m (ho : o.op = .binOp .geq t x y u) (hx : ρ x = .int k m) (hy : ρ y = .int k n) : (execOp ρ o).run P w = .ok (.value (.bool (decide (n ≤ m)))) w := Z36 ho hx hy (by simp [binOp, Op.intCmp])
theorem Z12 (ho : o.op = .binOp .eql t x y u) (hx : ρ x = .int k m) (hy : ρ y = .int k n) : (execOp ρ o).run P w = .ok (.value (.bool (decide (m = n)))) w := Z36 ho hx hy (by simp [binOp, Op.intCmp, BEq.beq])
theorem Z0q (ho : o.op = .binOp .neq t x y u) (hx : ρ x = .int k m) (hy : ρ y = .int k n) : (execOp ρ o).run P w = .ok (.value (.bool (decide (m ≠ n)))) w := Z36 ho hx hy (by simp [binOp, Op.intCmp, bne, BEq.beq])
theorem Z2a {b : Bool} (ho : o.op = .unOp .not t x) (hx : ρ x = .bool b) : (execOp ρ o).run P w = .ok (.value (.bool (!b))) w := by simp [execOp, ho, hx, Op.unary]
theorem Z0j {A : Option Addr} {l c : Nat} {e : TypeId} (hu : P.underlying t = some (.slice e)) (ho : o.op = .call { callee := .builtin .len, args := #[x], argTypes := #[t] }) (hx : ρ x = .slice A l c) : (execOp ρ o).run P w = .ok (.value (.int .i64 (l : Int))) w := by
  simp [execOp, ho, hx, resolve, invoke, builtin, Builtin.len_, Builtin.lenOf, run_underlying hu, goInt]
theorem x_len_s {s : ByteArray} (hu : P.underlying t = some .string) (ho : o.op = .call { callee := .builtin .len, args := #[x], argTypes := #[t] }) (hx : ρ x = .string s) : (execOp ρ o).run P w = .ok (.value (.int .i64 (s.size : Int))) w := by
  simp [execOp, ho, hx, resolve, invoke, builtin, Builtin.len_, Builtin.lenOf, run_underlying hu, goInt]
end
theorem Z05 {b c : Bool} (h : (execOp ρ o).run P w = .ok (.value (.bool b)) w) (e : b = c) : (execOp ρ o).run P w = .ok (.value (.bool c)) w := e ▸ h
theorem Z1c {v' : Value} (h : (execOp ρ o).run P w = .ok (.value v') w) (e : v' = v) : (execOp ρ o).run P w = .ok (.value v) w := e ▸ h
theorem Z0s {k : IntKind} {m n : Int} (h : m = n) : Value.int k m = .int k n := by rw [h]
end
/-! Things by their place in the row. -/
section
variable {H : Nat} {A w : World} {L : List Thing} {T T' : Thing}
theorem OwnT.get (h : OwnT H A L w) (i : Nat) (hi : L[i]? = some T) : T.holds w := h.all.mem (List.mem_of_getElem? hi)
theorem OwnT.blk (h : OwnT H A L w) (i : Nat) {b : Nat} {t : TypeId} {cs : Array Value} (hi : L[i]? = some (tBlk b t cs)) : Blk w b t cs := h.get i hi
theorem Z3b {α : Type} : ∀ (L : List α) (i : Nat) (x : α), L[i]? = some x → L.Perm (x :: L.eraseIdx i)
  | [], i, x, h => by simp at h
  | y :: L, 0, x, h => by simp at h; subst h; exact .refl _
  | y :: L, i + 1, x, h => by
    simp at h
    exact ((Z3b L i x h).cons y).trans (.swap _ _ _)
theorem Z7s {α : Type} : ∀ (L : List α) (i : Nat) (x y : α), L[i]? = some x → (y :: L.eraseIdx i).Perm (L.set i y)
  | [], i, x, y, h => by simp at h
  | z :: L, 0, x, y, h => by simp
  | z :: L, i + 1, x, y, h => by
    simp at h
    exact (List.Perm.swap _ _ _).trans ((Z7s L i x y h).cons z)
/-- The thing at place i ahead of the others. -/
theorem OwnT.pull (h : OwnT H A L w) (i : Nat) (hi : L[i]? = some T) : OwnT H A (T :: L.eraseIdx i) w := h.perm (Z3b L i T hi)
/-- .. and back, turned. -/
theorem OwnT.push {w' : World} (i : Nat) (hi : L[i]? = some T) (h : OwnT H A (T' :: L.eraseIdx i) w') : OwnT H A (L.set i T') w' := h.perm (Z7s L i T T' hi)
/-- Some of the things, in whatever order. -/
theorem OwnT.pick (h : OwnT H A L w) (is : List Nat) (hn : is.Nodup) : OwnT H A (is.filterMap fun i => L[i]?) w := by
  have hm : ∀ x ∈ is.filterMap (fun i => L[i]?), x ∈ L := fun x hx => by
    obtain ⟨i, _, hi⟩ := List.mem_filterMap.1 hx
    exact List.mem_of_getElem? hi
  refine ⟨h.below, h.size, Ths.of fun x hx => h.all.mem (hm x hx), fun x hx => h.high x (hm x hx), ?_⟩
  rw [List.pairwise_filterMap]
  refine (List.nodup_iff_pairwise_ne.1 hn).imp fun {i j} hij x hx y hy k hk hk' => ?_
  have hd := List.pairwise_iff_getElem.1 h.diff
  obtain ⟨hi, rfl⟩ := List.getElem?_eq_some_iff.1 hx
  obtain ⟨hj, rfl⟩ := List.getElem?_eq_some_iff.1 hy
  rcases Nat.lt_or_gt_of_ne hij with h1 | h1
  · exact hd i j hi hj h1 k hk hk'
  · exact hd j i hj hi h1 k hk' hk
/-- .. ahead of others. -/
theorem OwnT.pickR {R : List Thing} (h : OwnT H A (L ++ R) w) (is : List Nat) (hn : is.Nodup) : OwnT H A ((is.filterMap fun i => L[i]?) ++ R) w := by
  obtain ⟨d1, d2, d3⟩ := List.pairwise_append.1 h.diff
  have hp := OwnT.pick (h.sub (List.sublist_append_left L R)) is hn
  have hm : ∀ x ∈ is.filterMap (fun i => L[i]?), x ∈ L := fun x hx => by
    obtain ⟨i, _, hi⟩ := List.mem_filterMap.1 hx
    exact List.mem_of_getElem? hi
  have hmm : ∀ x ∈ (is.filterMap fun i => L[i]?) ++ R, x ∈ L ++ R := fun x hx => by
    rcases List.mem_append.1 hx with hx | hx
    · exact List.mem_append_left _ (hm x hx)
    · exact List.mem_append_right _ hx
  exact ⟨h.below, h.size, Ths.of fun x hx => h.all.mem (hmm x hx), fun x hx => h.high x (hmm x hx), List.pairwise_append.2 ⟨hp.diff, d2, fun x hx y hy => d3 x (hm x hx) y hy⟩⟩
end
section
variable {P : Program} {Q : Exit → Act → World → Prop} {a a0 a' : Act} {w w' : World} {n : Nat} {D : List Tmp} {ops : Array Oper} {rest : List Oper} {o : Oper} {v : Value}
/-- A new block. -/
theorem Z0k {H : Nat} {A : World} {L : List Thing} {t : TypeId} {cs : Array Value} (O : OwnT H A L w) (d : Tmp) (hE : Env a0 D a) (k : Fr n a0) (hd : o.dst = some d) (hn : Nat.blt d n = true) (hD : D.contains d = true) (hg : o.guard = none)
    (h : (execOp a.eval o).run P w = .ok (.value (.pointer (some ⟨w.heap.size, 0, none⟩))) (w.alloc (.cells cs t)))
    (hk : ∀ g a' w', OwnT H A (tBlk g t cs :: L) w' → Env a0 D a' → a'.eval (.tmp d) = .pointer (some ⟨g, 0, none⟩) → (∀ t, Nat.beq t d = false → a'.eval (.tmp t) = a.eval (.tmp t)) → wpList P ops Q rest a' w') : wpList P ops Q (o :: rest) a w :=
  Z1r d hE k hd hn hD hg h (fun a' h1 h2 h3 => hk _ a' _ (O.new t cs) h1 h2 h3)
/-- .. and nothing else has turned. -/
theorem sq_newE {H : Nat} {A : World} {L : List Thing} {t : TypeId} {cs : Array Value} (O : OwnT H A L w) (d : Tmp) (hE : Env a0 D a) (k : Fr n a0) (hd : o.dst = some d) (hn : Nat.blt d n = true) (hD : D.contains d = true) (hg : o.guard = none)
    (h : (execOp a.eval o).run P w = .ok (.value (.pointer (some ⟨w.heap.size, 0, none⟩))) (w.alloc (.cells cs t)))
    (hk : ∀ g a' w', Ext w w' → OwnT H A (tBlk g t cs :: L) w' → Env a0 D a' → a'.eval (.tmp d) = .pointer (some ⟨g, 0, none⟩) → (∀ t, Nat.beq t d = false → a'.eval (.tmp t) = a.eval (.tmp t)) → wpList P ops Q rest a' w') : wpList P ops Q (o :: rest) a w :=
  Z1r d hE k hd hn hD hg h (fun a' h1 h2 h3 => hk _ a' _ (Ext.alloc w _) (O.new t cs) h1 h2 h3)
theorem Z1n {H : Nat} {A : World} {L : List Thing} {t : TypeId} {cs : Array Value} {m c : Nat} (O : OwnT H A L w) (d : Tmp) (hE : Env a0 D a) (k : Fr n a0) (hd : o.dst = some d) (hn : Nat.blt d n = true) (hD : D.contains d = true) (hg : o.guard = none)
    (h : (execOp a.eval o).run P w = .ok (.value (.slice (some ⟨w.heap.size, 0, none⟩) m c)) (w.alloc (.cells cs t)))
    (hk : ∀ g a' w', OwnT H A (tBlk g t cs :: L) w' → Env a0 D a' → a'.eval (.tmp d) = .slice (some ⟨g, 0, none⟩) m c → (∀ t, Nat.beq t d = false → a'.eval (.tmp t) = a.eval (.tmp t)) → wpList P ops Q rest a' w') : wpList P ops Q (o :: rest) a w :=
  Z1r d hE k hd hn hD hg h (fun a' h1 h2 h3 => hk _ a' _ (O.new t cs) h1 h2 h3)
/-- The last operation of a region whose others are done. -/
theorem Z4l {H : Nat} {A : World} {L : List Thing} {b off : Nat} {t : TypeId} {cs : Array Value} (O : OwnT H A L w) (i : Nat) (hi : L[i]? = some (tBlk b t cs)) (hd : o.dst = none)
    (h : (execOp a.eval o).run P w = .ok .skip (w.setCell ⟨b, off, none⟩ v)) (hk : ∀ w', OwnT H A (L.set i (tBlk b t (cs.setIfInBounds off v))) w' → Q .normal a w') : o.wp P a w (fun a w => Q .normal a w) Q := by
  refine Z1t h ?_
  rw [hd]
  exact hk _ (OwnT.push i hi ((OwnT.pull O i hi).set off v))
theorem Env.mono {D' : List Tmp} (hE : Env a0 D a) (h : D.all (fun d => D'.contains d) = true) : Env a0 D' a :=
  ⟨hE.size, hE.defers, fun t ht => hE.keep t (fun hd => ht (by have := List.all_eq_true.1 h t hd; simpa using this))⟩
theorem Z3p (d : Tmp) (D' : List Tmp) (hE : Env a0 D a) (k : Fr n a0) (hd : o.dst = some d) (hn : Nat.blt d n = true) (hs : D.all (fun d => D'.contains d) = true) (hD : D'.contains d = true)
    (h : (execOp a.eval o).run P w = .ok (.value v) w')
    (hk : ∀ a', Env a0 D' a' → a'.eval (.tmp d) = v → (∀ t, Nat.beq t d = false → a'.eval (.tmp t) = a.eval (.tmp t)) → Q .normal a' w') : o.wp P a w (fun a w => Q .normal a w) Q := by
  refine Z0z h ?_
  rw [hd]
  exact hk _ ((hE.mono hs).put hD v) (Z0g (by rw [hE.size, k.size]; exact Nat.le_of_ble_eq_true hn)) (fun t ht => Z10 ht v)
theorem Z1e {ρ : Operand → Value} {x y : Operand} {t t' : TypeId} {u u' : Value} (ho : o.op = .call { callee := .builtin .append, args := #[x, y], argTypes := #[t, t'] }) (hx : ρ x = u) (hy : ρ y = u') (hr : (Builtin.append_ #[t, t'] o.type #[u, u']).run P w = .ok v w') :
    (execOp ρ o).run P w = .ok (.value v) w' := by
  unfold execOp
  simp only [ho, resolve, invoke, builtin, Sem.run_bind, Sem.run_pure, Result.andThen_ok, List.map_toArray, List.map_cons, List.map_nil, hx, hy, hr]
end
/-! Loads and stores of things, of any number of cells. -/
def puts : List Value → Nat → Array Value → Array Value
  | [], _, cs => cs
  | v :: vs, off, cs => puts vs (off + 1) (cs.setIfInBounds off v)
section
variable {P : Program} {Q : Exit → Act → World → Prop} {a a0 : Act} {w : World} {n H : Nat} {A : World} {L : List Thing} {D : List Tmp} {ops : Array Oper} {rest : List Oper} {o : Oper} {b off : Nat} {T t : TypeId} {cs : Array Value} {v : Value} {ρ : Operand → Value} {x y : Operand}
theorem OwnT.sets : ∀ (vs : List Value) (off : Nat) (cs : Array Value) (w : World), OwnT H A (tBlk b T cs :: L) w → OwnT H A (tBlk b T (puts vs off cs) :: L) (w.setCells b off vs)
  | [], _, _, _, O => O
  | v :: vs, off, cs, w, O => OwnT.sets vs (off + 1) _ _ (O.set off v)
theorem run_st (hb : Blk w b T cs) (hs : (P.info? t).map (·.size) = some v.cells.size) (h1 : v.cells.toList.all (·.oneCell') = true) (hl : Nat.ble (off + v.cells.size) cs.size = true) :
    (storeVar t ⟨b, off, none⟩ v).run P w = .ok () (w.setCells b off v.cells.toList) := by
  have hl := Nat.le_of_ble_eq_true hl
  have := run_storeCells_cells (P := P) b off v.cells.toList 0 w (fun j hj => by rw [hb.cell, Array.getElem?_eq_getElem (by simp at hj; omega)]; rfl) (fun j hj => hb.frozen _)
    (fun v hv => (List.all_eq_true.1 h1) v hv)
  cases hq : P.info? t with
  | none => simp [hq] at hs
  | some i =>
    have hs : v.cells.size = i.size := by simp [hq] at hs; omega
    simp only [Nat.add_zero] at this
    simp [storeVar, sizeOf, typeInfo, hq, hs, this]
theorem x_st (O : OwnT H A L w) (i : Nat) (hi : L[i]? = some (tBlk b T cs)) (ho : o.op = .store t x y) (hx : ρ x = .pointer (some ⟨b, off, none⟩)) (hy : ρ y = v) (hs : (P.info? t).map (·.size) = some v.cells.size) (h1 : v.cells.toList.all (·.oneCell') = true) (hl : Nat.ble (off + v.cells.size) cs.size = true) :
    (execOp ρ o).run P w = .ok .skip (w.setCells b off v.cells.toList) ∧ OwnT H A (L.set i (tBlk b T (puts v.cells.toList off cs))) (w.setCells b off v.cells.toList) := by
  refine ⟨?_, OwnT.push i hi (OwnT.sets _ _ _ _ (OwnT.pull O i hi))⟩
  unfold execOp
  simp only [ho, hx, hy, Instr.storeAt, Instr.sureAddr, Sem.run_bind, Sem.run_pure, Result.andThen_ok, run_st (OwnT.blk O i hi) hs h1 hl]
theorem run_ld1 (hb : Blk w b T cs) (hv : cs[off]? = some v) {d : TypeDesc} (hu : P.underlying t = some d) (hd : d.isRow = false) : (loadVar t ⟨b, off, none⟩).run P w = .ok v w := by
  have hagg : (isAgg t).run P w = .ok false w := by
    unfold isAgg
    rw [Sem.run_bind, run_underlying hu w]
    cases d <;> simp_all
  have hc : w.cell? ⟨b, off, none⟩ = some v := (hb.cell off).trans hv
  simp [loadVar, Sem.run_bind, hagg, hc]
theorem Z08 (O : OwnT H A L w) (i : Nat) (hi : L[i]? = some (tBlk b T cs)) (ho : o.op = .load t x) (hx : ρ x = .pointer (some ⟨b, off, none⟩)) (hv : cs[off]? = some v) {d : TypeDesc} (hu : P.underlying t = some d) (hd : d.isRow = false) :
    (execOp ρ o).run P w = .ok (.value v) w := by
  unfold execOp
  simp only [ho, hx, Instr.loadAt, Instr.sureAddr, Sem.run_bind, Sem.run_pure, Result.andThen_ok, run_ld1 (OwnT.blk O i hi) hv hu hd]
theorem Z1s (O : OwnT H A L w) (i : Nat) (hi : L[i]? = some (tBlk b T cs)) (ho : o.op = .load t x) (hx : ρ x = .pointer (some ⟨b, off, none⟩)) (vs : List Value) (hv : (cs.toList.drop off).take vs.length = vs) {d : TypeDesc} (hu : P.underlying t = some d) (hd : d.isRow = true) (hs : (P.info? t).map (·.size) = some vs.length) :
    (execOp ρ o).run P w = .ok (.value (.agg vs.toArray)) w := by
  have hr : w.rangeAt b off vs := fun j u hj => by
    rw [(OwnT.blk O i hi).cell]
    rw [← hv, List.getElem?_take] at hj
    split at hj
    · rw [List.getElem?_drop] at hj; simpa using hj
    · cases hj
  unfold execOp
  simp only [ho, hx, Instr.loadAt, Instr.sureAddr, Sem.run_bind, Sem.run_pure, Result.andThen_ok, run_loadVar_mid w b off t vs d hr hu hd hs]
/-- A store into a block of one's own, of any number of cells. -/
theorem Z1f (O : OwnT H A L w) (i off : Nat) (hE : Env a0 D a) (hx : a.eval x = .pointer (some ⟨b, off, none⟩)) (hy : a.eval y = v)
    (hk : ∀ w', OwnT H A (L.set i (tBlk b T (puts v.cells.toList off cs))) w' → wpList P ops Q rest a w')
    (hi : L[i]? = some (tBlk b T cs) := by rfl) (ho : o.op = .store t x y := by rfl) (hd : o.dst = none := by rfl) (hg : o.guard = none := by rfl) (hs : (P.info? t).map (·.size) = some v.cells.size := by kernel_rfl) (h1 : v.cells.toList.all (·.oneCell') = true := by rfl) (hl : Nat.ble (off + v.cells.size) cs.size = true := by rfl) : wpList P ops Q (o :: rest) a w :=
  have h := x_st (P := P) O i hi ho hx hy hs h1 hl
  Z51 hE hd hg h.1 (hk _ h.2)
end
/-! Short forms. -/
section
variable {P : Program} {Q : Exit → Act → World → Prop} {a a0 : Act} {w : World} {n : Nat} {D : List Tmp} {ops : Array Oper} {rest : List Oper} {o : Oper} {v : Value}
theorem sd (d : Tmp) (hE : Env a0 D a) (k : Fr n a0) (h : (execOp a.eval o).run P w = .ok (.value v) w)
    (hk : ∀ a', Env a0 D a' → a'.eval (.tmp d) = v → (∀ t, Nat.beq t d = false → a'.eval (.tmp t) = a.eval (.tmp t)) → wpList P ops Q rest a' w)
    (hd : o.dst = some d := by rfl) (hn : Nat.blt d n = true := by rfl) (hD : D.contains d = true := by rfl) (hg : o.guard = none := by rfl) : wpList P ops Q (o :: rest) a w := Z1r d hE k hd hn hD hg h hk
theorem bd {w0 : World} {A : List (List Nat)} {G : List (Nat × TFact Ext) → Prop} {i : Nat} {os : List Oper} {done : List (Nat × TFact Ext)} (d : Tmp) (k : Fr n a0) (hd : o.dst = some d) (hn : Nat.blt d n = true) (hg : o.guard = none)
    (h : ∀ a w, Env a0 D a → Ext w0 w → (∀ (j : Nat) (S' : TFact Ext), j ∈ A.getD i [] → (j, S') ∈ done → S'.T a w) → (execOp a.eval o).run P w = .ok (.value v) w)
    (hr : Build P ops Ext w0 a0 D A G (i + 1) os ((i, det d v) :: done)) : Build P ops Ext w0 a0 D A G i (o :: os) done :=
  Build.det d Ext.refl hd (by rw [k.size]; exact hn) hg h hr
theorem bdg {w0 : World} {A : List (List Nat)} {G : List (Nat × TFact Ext) → Prop} {i : Nat} {os : List Oper} {done : List (Nat × TFact Ext)} {j dj : Nat} {b : Bool} (d : Tmp) (k : Fr n a0) (hd : o.dst = some d) (hn : Nat.blt d n = true) (hg : o.guard = some (j, b)) (hj : (ops[j]?).bind (·.dst) = some dj)
    (h : ∀ a w, Env a0 D a → Ext w0 w → (∀ (j : Nat) (S' : TFact Ext), j ∈ A.getD i [] → (j, S') ∈ done → S'.T a w) → a.eval (.tmp dj) = .bool b ∧ (execOp a.eval o).run P w = .ok (.value v) w)
    (hr : Build P ops Ext w0 a0 D A G (i + 1) os ((i, det d v) :: done)) : Build P ops Ext w0 a0 D A G i (o :: os) done :=
  Build.detg d Ext.refl hd (by rw [k.size]; exact hn) hg hj h hr
theorem kt {a' : Act} {d t : Tmp} (kp : ∀ t, Nat.beq t d = false → a'.eval (.tmp t) = a.eval (.tmp t)) (e : a.eval (.tmp t) = v) (h : Nat.beq t d = false := by rfl) : a'.eval (.tmp t) = v := (kp t h).trans e
theorem Env.g {t : Tmp} (hE : Env a0 D a) (e : a0.eval (.tmp t) = v) (h : D.contains t = false := by rfl) : a.eval (.tmp t) = v := hE.eval t h e
theorem zm {t : Tmp} (d : Tmp) (hE : Env a0 D a) (k : Fr n a0) (e : a0.eval (.tmp t) = v)
    (hk : ∀ a', Env a0 D a' → a'.eval (.tmp d) = v → (∀ t, Nat.beq t d = false → a'.eval (.tmp t) = a.eval (.tmp t)) → wpList P ops Q rest a' w)
    (ho : o.op = .move (.tmp t) := by rfl) (ht : D.contains t = false := by rfl) (hd : o.dst = some d := by rfl) (hn : Nat.blt d n = true := by rfl) (hD : D.contains d = true := by rfl) (hg : o.guard = none := by rfl) : wpList P ops Q (o :: rest) a w := Z1r d hE k hd hn hD hg (Z02 ho (hE.eval t ht e)) hk
end
theorem ml0 {α : Type _} {x : α} {l : List α} : x ∈ x :: l := .head _
theorem ml1 {α : Type _} {x y0 : α} {l : List α} : x ∈ y0 :: x :: l := .tail _ ml0
theorem ml2 {α : Type _} {x y0 y1 : α} {l : List α} : x ∈ y0 :: y1 :: x :: l := .tail _ ml1
theorem ml3 {α : Type _} {x y0 y1 y2 : α} {l : List α} : x ∈ y0 :: y1 :: y2 :: x :: l := .tail _ ml2
theorem ml4 {α : Type _} {x y0 y1 y2 y3 : α} {l : List α} : x ∈ y0 :: y1 :: y2 :: y3 :: x :: l := .tail _ ml3
theorem ml5 {α : Type _} {x y0 y1 y2 y3 y4 : α} {l : List α} : x ∈ y0 :: y1 :: y2 :: y3 :: y4 :: x :: l := .tail _ ml4
theorem ml6 {α : Type _} {x y0 y1 y2 y3 y4 y5 : α} {l : List α} : x ∈ y0 :: y1 :: y2 :: y3 :: y4 :: y5 :: x :: l := .tail _ ml5
theorem ml7 {α : Type _} {x y0 y1 y2 y3 y4 y5 y6 : α} {l : List α} : x ∈ y0 :: y1 :: y2 :: y3 :: y4 :: y5 :: y6 :: x :: l := .tail _ ml6
theorem ml8 {α : Type _} {x y0 y1 y2 y3 y4 y5 y6 y7 : α} {l : List α} : x ∈ y0 :: y1 :: y2 :: y3 :: y4 :: y5 :: y6 :: y7 :: x :: l := .tail _ ml7
theorem ml9 {α : Type _} {x y0 y1 y2 y3 y4 y5 y6 y7 y8 : α} {l : List α} : x ∈ y0 :: y1 :: y2 :: y3 :: y4 :: y5 :: y6 :: y7 :: y8 :: x :: l := .tail _ ml8
theorem ml10 {α : Type _} {x y0 y1 y2 y3 y4 y5 y6 y7 y8 y9 : α} {l : List α} : x ∈ y0 :: y1 :: y2 :: y3 :: y4 :: y5 :: y6 :: y7 :: y8 :: y9 :: x :: l := .tail _ ml9
theorem ml11 {α : Type _} {x y0 y1 y2 y3 y4 y5 y6 y7 y8 y9 y10 : α} {l : List α} : x ∈ y0 :: y1 :: y2 :: y3 :: y4 :: y5 :: y6 :: y7 :: y8 :: y9 :: y10 :: x :: l := .tail _ ml10
theorem ml12 {α : Type _} {x y0 y1 y2 y3 y4 y5 y6 y7 y8 y9 y10 y11 : α} {l : List α} : x ∈ y0 :: y1 :: y2 :: y3 :: y4 :: y5 :: y6 :: y7 :: y8 :: y9 :: y10 :: y11 :: x :: l := .tail _ ml11
theorem ml13 {α : Type _} {x y0 y1 y2 y3 y4 y5 y6 y7 y8 y9 y10 y11 y12 : α} {l : List α} : x ∈ y0 :: y1 :: y2 :: y3 :: y4 :: y5 :: y6 :: y7 :: y8 :: y9 :: y10 :: y11 :: y12 :: x :: l := .tail _ ml12
theorem ml14 {α : Type _} {x y0 y1 y2 y3 y4 y5 y6 y7 y8 y9 y10 y11 y12 y13 : α} {l : List α} : x ∈ y0 :: y1 :: y2 :: y3 :: y4 :: y5 :: y6 :: y7 :: y8 :: y9 :: y10 :: y11 :: y12 :: y13 :: x :: l := .tail _ ml13
theorem ml15 {α : Type _} {x y0 y1 y2 y3 y4 y5 y6 y7 y8 y9 y10 y11 y12 y13 y14 : α} {l : List α} : x ∈ y0 :: y1 :: y2 :: y3 :: y4 :: y5 :: y6 :: y7 :: y8 :: y9 :: y10 :: y11 :: y12 :: y13 :: y14 :: x :: l := .tail _ ml14
theorem bsk {P : Program} {a0 : Act} {n : Nat} {D : List Tmp} {ops : Array Oper} {o : Oper} {w0 : World} {A : List (List Nat)} {G : List (Nat × TFact Ext) → Prop} {i : Nat} {os : List Oper} {done : List (Nat × TFact Ext)} {j dj : Nat} {b : Bool} (d : Tmp) (k : Fr n a0) (hd : o.dst = some d) (hn : Nat.blt d n = true) (hg : o.guard = some (j, b)) (hj : (ops[j]?).bind (·.dst) = some dj)
    (h : ∀ {a : Act} {w : World}, (∀ (j : Nat) (S' : TFact Ext), j ∈ A.getD i [] → (j, S') ∈ done → S'.T a w) → a.eval (.tmp dj) = .bool (!b))
    (hr : Build P ops Ext w0 a0 D A G (i + 1) os ((i, det d undef) :: done)) : Build P ops Ext w0 a0 D A G i (o :: os) done :=
  Build.skip d hd (by rw [k.size]; exact hn) hg hj (fun _ _ _ _ hF => h hF) hr
abbrev rg (n : Nat) : List Nat := List.range n
theorem zhF {R : World → World → Prop} {X : List Nat} {done : List (Nat × TFact R)} {a : Act} {w : World} {v : Value} (hF : ∀ (j : Nat) (S' : TFact R), j ∈ X → (j, S') ∈ done → S'.T a w) (i : Nat) (d : Tmp) (m : (i, det d v) ∈ done) (h : i ∈ X := by decide) : a.eval (.tmp d) = v := hF i _ h m
open Go.RowKit Go.Maps Go.ChangeMaps Go.MapKept Go.WideShapes

theorem Blk.setRow {w : World} {g : Nat} {t : TypeId} {cs : Array Value} (h : Blk w g t cs) (cs' : Array Value) : Blk (w.setRow g cs') g t cs' := setRow_heap w g cs cs' t (0, 0) h
theorem Z1y (w : World) (g : Nat) (cs : Array Value) : Chg [g] w (w.setRow g cs) := ⟨rfl, rfl, rfl, by simp, fun i _ hn => setRow_other w g i cs (by simpa using hn)⟩
/-- The block of a slice of one's own, and its cells. -/
def celOf (v : Value) (xs : List Value) : Option (Nat × List Value) := match v with
  | .slice (some ⟨g, 0, none⟩) _ _ => some (g, xs)
  | _ => none
theorem celOf_ok {T : TypeId} {k n b : Nat} {v : Value} {xs ys : List Value} {w : World} (e : celOf v xs = some (b, ys)) (h : w.ownsRow 0 T k v n xs) (j : Nat) (u : Value) (hu : ys[j]? = some u) : w.cell? ⟨b, j, none⟩ = some u := by
  unfold celOf at e
  split at e
  · cases e
    have := h.cells rfl j u hu
    rw [show ((⟨b, 0, none⟩ : Addr).add j) = ⟨b, j, none⟩ from by unfold Addr.add; split <;> simp_all] at this
    exact this
  · cases e
/-- A row of one's own as a thing. -/
def tRow (T : TypeId) (k : Nat) (v : Value) (n : Nat) (xs : List Value) : Thing where
  foot := v.ownBlock.toList
  holds := fun w => w.ownsRow 0 T k v n xs
  keep := fun w w' _ h hb => by
    refine ⟨hb.1, ?_⟩
    rcases hb.2 with hn | ⟨g, cap, cur, rfl, hg, hgb, rest⟩
    · exact .inl hn
    · exact .inr ⟨g, cap, cur, rfl, hg, (h g (by simp [Value.ownBlock])).trans hgb, rest⟩
  lt := fun w h i hi => (h.lt i (by simpa using hi)).2
  cel := celOf v xs
  celOk := fun w b ys e h j u hu => celOf_ok e h j u hu
/-- What a row that is not nil is. -/
theorem Z18 {w : World} {T : TypeId} {k n : Nat} {v : Value} {xs : List Value} (h : w.ownsRow 0 T k v n xs) (hn : 0 < n) : ∃ g cap cur, v = .slice (some ⟨g, 0, none⟩) n cap ∧ Blk w g T cur ∧ n ≤ cap ∧ cap ≤ maxLen ∧ cur.size = cap * k ∧ cur.toList.take (n * k) = xs := by
  rcases h.2 with ⟨_, rfl⟩ | ⟨g, cap, cur, rfl, _, h1, h2, h3, h4, h5⟩
  · omega
  · exact ⟨g, cap, cur, rfl, h1, h2, h3, h4, h5⟩
theorem Z3x {w : World} {T : TypeId} {k n g cap : Nat} {cur : Array Value} {xs : List Value} (h1 : Blk w g T cur) (h2 : n ≤ cap) (h3 : cap ≤ maxLen) (h4 : cur.size = cap * k) (h5 : cur.toList.take (n * k) = xs) :
    w.ownsRow 0 T k (.slice (some ⟨g, 0, none⟩) n cap) n xs := by
  have hc : n * k ≤ cap * k := Nat.mul_le_mul_right k h2
  refine ⟨?_, .inr ⟨g, cap, cur, rfl, Nat.zero_le _, h1, h2, h3, h4, h5⟩⟩
  rw [← h5, List.length_take, Array.length_toList, h4]
  omega
theorem OwnT.row {H : Nat} {A w w' : World} {L : List Thing} {T : TypeId} {k n n' : Nat} {v v' : Value} {xs xs' : List Value} (h : OwnT H A (tRow T k v n xs :: L) w) (hr : w'.ownsRow 0 T k v' n' xs') (hg : w.grownBy w' v.ownBlock)
    (hf : v'.ownBlock = v.ownBlock ∨ ∃ j, v'.ownBlock = some j ∧ w.heap.size ≤ j) : OwnT H A (tRow T k v' n' xs' :: L) w' := by
  refine h.call (F := v.ownBlock.toList) ⟨hg.os, hg.tape, hg.output, hg.size, fun i hi hn => hg.block i hi (fun e => hn (by rw [← e]; simp))⟩ (fun i hi => hi) (tRow T k v' n' xs') hr (fun i hi => ?_)
  rcases hf with e | ⟨j, e, hj⟩
  · have hi' : i ∈ v'.ownBlock.toList := hi
    rw [e] at hi'
    exact .inl hi'
  · have hi' : i ∈ v'.ownBlock.toList := hi
    rw [e, Option.toList_some, List.mem_singleton] at hi'
    exact .inr (by omega)
theorem OwnT.r0 {H : Nat} {A w : World} {L : List Thing} {T : TypeId} {k n : Nat} {v : Value} {xs : List Value} (h : OwnT H A (tRow T k v n xs :: L) w) : w.ownsRow 0 T k v n xs := h.all.1
theorem OwnT.b0 {H : Nat} {A w : World} {L : List Thing} {b : Nat} {t : TypeId} {cs : Array Value} (h : OwnT H A (tBlk b t cs :: L) w) : Blk w b t cs := h.all.1
theorem OwnT.b1 {H : Nat} {A w : World} {X : Thing} {L : List Thing} {b : Nat} {t : TypeId} {cs : Array Value} (h : OwnT H A (X :: tBlk b t cs :: L) w) : Blk w b t cs := h.all.2.1
theorem OwnT.b2 {H : Nat} {A w : World} {X Y : Thing} {L : List Thing} {b : Nat} {t : TypeId} {cs : Array Value} (h : OwnT H A (X :: Y :: tBlk b t cs :: L) w) : Blk w b t cs := h.all.2.2.1
section
variable {P : Program}
/-- copy of elements of k cells. -/
theorem Z1u (w : World) (dT sT ty elem : TypeId) (i : TypeInfo) (k : Nat) (hu : P.underlying dT = some (.slice elem)) (hi : P.info? elem = some i) (hk : i.size = k) (g o dLen dCap : Nat) (a : Addr) (sLen sCap : Nat) (cur : Array Value) (t : TypeId) (cs : List Value)
    (hg : Blk w g t cur) (hn : cs.length = Nat.min sLen dLen * k) (hsrc : ∀ j v, cs[j]? = some v → w.cell? (a.add j) = some v) (hfit : o + cs.length ≤ cur.size) (h1 : ∀ v ∈ cs, v.oneCell' = true) :
    (Builtin.copy_ #[dT, sT] ty #[.slice (some ⟨g, o, none⟩) dLen dCap, .slice (some a) sLen sCap]).run P w = .ok (goInt (Nat.min sLen dLen)) (w.setRow g (splice cur.toList o cs).toArray) := by
  have hl := run_loadCells_list (P := P) w a cs hsrc
  have hst := run_storeCells_at P g o t cs 0 cur w hg (by simpa using hfit) h1
  subst hk
  simp [Builtin.copy_, run_underlying hu, Builtin.lenOf, Builtin.firstCells, sizeOf, typeInfo, hi, ← hn, hl, hst, splice]
theorem Z55 (w : World) (dT sT ty elem : TypeId) (i : TypeInfo) (hu : P.underlying dT = some (.slice elem)) (hi : P.info? elem = some i) (A B : Option Addr) (dLen dCap sLen sCap : Nat) (hn : Nat.min sLen dLen = 0) :
    (Builtin.copy_ #[dT, sT] ty #[.slice A dLen dCap, .slice B sLen sCap]).run P w = .ok (goInt 0) w := by
  cases A <;> cases B <;> simp [Builtin.copy_, run_underlying hu, Builtin.lenOf, Builtin.firstCells, sizeOf, typeInfo, hi, hn, storeCells, loadCells, loadCellsFrom]
/-- clear of elements of k cells. -/
theorem Z6t (w : World) (t elem ty : TypeId) (i : TypeInfo) (z : Value) (hu : P.underlying t = some (.slice elem)) (hi : P.info? elem = some i) (hz : i.zero = some z) (g o n c : Nat) (cur : Array Value) (T : TypeId)
    (hg : Blk w g T cur) (hn : 0 < n) (hfit : o + n * z.cells.size ≤ cur.size) (h1 : ∀ v ∈ (Builtin.zeroCells z.cells n).toList, v.oneCell' = true) :
    (Builtin.clear_ #[t] ty #[.slice (some ⟨g, o, none⟩) n c]).run P w = .ok (.tuple #[]) (w.setRow g (splice cur.toList o (Builtin.zeroCells z.cells n).toList).toArray) := by
  have hl : (Builtin.zeroCells z.cells n).toList.length = n * z.cells.size := by simp [Builtin.zeroCells]
  have hst := run_storeCells_at P g o T (Builtin.zeroCells z.cells n).toList 0 cur w hg (by rw [hl]; simpa using hfit) h1
  obtain ⟨m, rfl⟩ : ∃ m, n = m + 1 := ⟨n - 1, by omega⟩
  simp [Builtin.clear_, run_underlying hu, zeroValue, typeInfo, hi, hz, hst, splice]
theorem Z49 (w : World) (t elem ty : TypeId) (hu : P.underlying t = some (.slice elem)) (A : Option Addr) (c : Nat) :
    (Builtin.clear_ #[t] ty #[.slice A 0 c]).run P w = .ok (.tuple #[]) w := by
  cases A <;> simp [Builtin.clear_, run_underlying hu]
/-- append to a row of one's own: which block it lies in then. -/
theorem Z1o (w : World) (t ty e : TypeId) (i : TypeInfo) (z : Value) (size bytes : Nat) (ht : P.underlying t = some (.slice e)) (hi : P.info? e = some i) (hz : i.zero = some z)
    (hsize : i.size = size) (hby : i.bytes = bytes) (hzs : z.cells.size = size) (hsz : 0 < size) (v : Value) (n : Nat) (xs : List Value) (hown : w.ownsRow 0 e size v n xs)
    (a : Addr) (m c : Nat) (news : List Value) (hl : news.length = m * size) (hnews : ∀ j u, news[j]? = some u → w.cell? (a.add j) = some u) (h1 : ∀ u ∈ news, u.oneCell' = true)
    (h63 : n + m ≤ maxLen) (hbytes : (n + m) * bytes ≤ 140737488355328) :
    ∃ v' w', (Builtin.append_ #[t, t] ty #[v, .slice (some a) m c]).run P w = .ok v' w' ∧ w'.ownsRow 0 e size v' (n + m) (xs ++ news) ∧ w.grownBy w' v.ownBlock ∧
      (v'.ownBlock = v.ownBlock ∨ ∃ k, v'.ownBlock = some k ∧ w.heap.size ≤ k) := by
  obtain ⟨v', w', hrun, h2, h3, h4⟩ := run_append_own (P := P) w 0 t ty e i z size bytes ht hi hz hsize hby hzs hsz v n xs hown a m c news hl hnews h1 h63 hbytes (Nat.zero_le _)
  refine ⟨v', w', hrun, h2, h3, ?_⟩
  subst hsize hby
  rcases hown.2 with ⟨rfl, rfl⟩ | ⟨g, cap, cur, rfl, hbg, hg, hnc, hcm, hcs, htake⟩
  · by_cases hm : m = 0
    · obtain rfl := (h4.2 ⟨rfl, hm⟩)
      exact .inl rfl
    · have hr := run_append_nil (P := P) w t ty e i z ht hi hz a m c news hl hnews (by omega) (by have := h63; unfold maxLen at this; omega) (by have hb := hbytes; simp only [Nat.zero_add] at hb; omega)
      rw [hr] at hrun
      injection hrun with e1 e2
      subst e1
      exact .inr ⟨w.heap.size, rfl, Nat.le_refl _⟩
  · by_cases hroom : n + m ≤ cap
    · have hfit : n * i.size + news.length ≤ cur.size := by rw [hl, hcs, ← Nat.add_mul]; exact Nat.mul_le_mul_right _ hroom
      have hr := run_append_room (P := P) w t ty e i ht hi g n cap cur hg a m c news hl hnews h1 hroom hfit
      rw [hr] at hrun
      injection hrun with e1 e2
      subst e1
      exact .inl rfl
    · have holds : ∀ j u, xs[j]? = some u → w.cell? ((⟨g, 0, none⟩ : Addr).add j) = some u := hown.cells (g := g) rfl
      have hr := run_append_grow (P := P) w t ty e i z ht hi hz ⟨g, 0, none⟩ n cap xs hown.1 holds a m c news hl hnews (by omega) (by have := h63; unfold maxLen at this; omega) (growslice_fits (by omega) hbytes)
      rw [hr] at hrun
      injection hrun with e1 e2
      subst e1
      exact .inr ⟨w.heap.size, rfl, Nat.le_refl _⟩
/-- copy, append, clear at an operation, by their runs. -/
theorem Z2o {w : World} {o : Oper} {a : Act} {K : Act → World → Prop} {Q : Exit → Act → World → Prop} (d s : Operand) (t t' : TypeId)
    (ho : o.op = .call { callee := .builtin .copy, args := #[d, s], argTypes := #[t, t'] }) (v u : Value) (hd : a.eval d = v) (hs : a.eval s = u) {v' : Value} {w' : World}
    (hr : (Builtin.copy_ #[t, t'] o.type #[v, u]).run P w = .ok v' w') (h : K (a.put o.dst v') w') : o.wp P a w K Q := by
  unfold Oper.wp execOp
  simp only [ho, resolve, invoke, builtin, Sem.run_bind, Sem.run_pure, Result.andThen_ok, List.map_toArray, List.map_cons, List.map_nil, hd, hs, hr]
  exact h
theorem Z13 {w : World} {ops : Array Oper} {rest : List Oper} {o : Oper} {a : Act} {Q : Exit → Act → World → Prop} (hgd : o.guard = none) (d s : Operand) (t t' : TypeId)
    (ho : o.op = .call { callee := .builtin .copy, args := #[d, s], argTypes := #[t, t'] }) (v u : Value) (hd : a.eval d = v) (hs : a.eval s = u) {v' : Value} {w' : World}
    (hr : (Builtin.copy_ #[t, t'] o.type #[v, u]).run P w = .ok v' w') (h : wpList P ops Q rest (a.put o.dst v') w') : wpList P ops Q (o :: rest) a w :=
  wpList_plain hgd fun _ hK => Z2o d s t t' ho v u hd hs hr (hK _ _ h)
theorem Z4v {w : World} {o : Oper} {a : Act} {K : Act → World → Prop} {Q : Exit → Act → World → Prop} (d s : Operand) (t t' : TypeId)
    (ho : o.op = .call { callee := .builtin .append, args := #[d, s], argTypes := #[t, t'] }) (v u : Value) (hd : a.eval d = v) (hs : a.eval s = u) {v' : Value} {w' : World}
    (hr : (Builtin.append_ #[t, t'] o.type #[v, u]).run P w = .ok v' w') (h : K (a.put o.dst v') w') : o.wp P a w K Q := by
  unfold Oper.wp execOp
  simp only [ho, resolve, invoke, builtin, Sem.run_bind, Sem.run_pure, Result.andThen_ok, List.map_toArray, List.map_cons, List.map_nil, hd, hs, hr]
  exact h
theorem Z0m {w : World} {ops : Array Oper} {rest : List Oper} {o : Oper} {a : Act} {Q : Exit → Act → World → Prop} (hgd : o.guard = none) (d s : Operand) (t t' : TypeId)
    (ho : o.op = .call { callee := .builtin .append, args := #[d, s], argTypes := #[t, t'] }) (v u : Value) (hd : a.eval d = v) (hs : a.eval s = u) {v' : Value} {w' : World}
    (hr : (Builtin.append_ #[t, t'] o.type #[v, u]).run P w = .ok v' w') (h : wpList P ops Q rest (a.put o.dst v') w') : wpList P ops Q (o :: rest) a w :=
  wpList_plain hgd fun _ hK => Z4v d s t t' ho v u hd hs hr (hK _ _ h)
end
open Go.RowKit Go.Maps

/-- An element reads as itself. -/
def heldE (v : Value) : Option (DataW Value × List MemPlace) := some (.held v, [])
theorem Z2z : Keyed Try.prog 3 := int_keyed Try.underlying3
abbrev wfV (i : Int) : Prop := (Lit.int .i64 i).wf = true
theorem Z2s {a : Int} (h0 : -9223372036854775808 ≤ a) (h1 : a ≤ 9223372036854775807) : wfV a := WalkArith.wf_i64 (by omega)
theorem Z3q {i : Int} (h : wfV i) : keyOf Try.prog 3 (.int .i64 i) = some (.int .i64 i) := keyOf_int_mk Try.underlying3 h
theorem keyV (i : Int) : WideAt.IsKeyLit (.int .i64 i) := trivial
theorem Z5f {i c : Int} (h : i ≠ c) : (Lit.int .i64 i) ≠ (Lit.int .i64 c) := fun e => h (by injection e)
def orV (o : Option Value) (z : DataW Value) : DataW Value := match o with | some v => .held v | none => z
def SaysV (D : DataW Value) (m : Int → Option Value) : Prop := ∀ i, wfV i → (∀ z, D.atKey (.int .i64 i) z = orV (m i) z) ∧ Maps.has D (.int .i64 i) = (m i).isSome
/-- Block b is a map of at most n entries that says m. -/
def VM (w : World) (b n : Nat) (m : Int → Option Value) : Prop := ∃ D : DataW Value, w.ownsMap Try.prog 3 heldE b n D ∧ SaysV D m
def putV (m : Int → Option Value) (c : Int) (v : Value) : Int → Option Value := fun i => if i = c then some v else m i
def delV (m : Int → Option Value) (c : Int) : Int → Option Value := fun i => if i = c then none else m i
section
variable {w w' : World} {b n : Nat} {m : Int → Option Value}
theorem VM.made (w : World) : VM (w.alloc (.map #[] 0)) w.heap.size 0 (fun _ => none) :=
  ⟨.map [], World.ownsMap_made _ _ _ _, fun _ _ => ⟨fun _ => rfl, rfl⟩⟩
theorem VM.lt (h : VM w b n m) : b < w.heap.size := by
  obtain ⟨D, h1, h2⟩ := h
  exact h1.lt
theorem VM.same (h : VM w b n m) (hb : w'.heap[b]? = w.heap[b]?) : VM w' b n m := by
  obtain ⟨D, ⟨es, clock, h1, h2⟩, h3⟩ := h
  exact ⟨D, ⟨es, clock, hb.trans h1, h2⟩, h3⟩
theorem VM.ext (h : VM w b n m) (k : Ext w w') : VM w' b n m := h.same (k.block b h.lt)
theorem VM.chg {F : List Nat} (h : VM w b n m) (k : Chg F w w') (hb : b ∉ F) : VM w' b n m := h.same (k.block b h.lt hb)
theorem VM.mono (h : VM w b n m) {k : Nat} (hk : n ≤ k) : VM w b k m := by
  obtain ⟨D, h1, h2⟩ := h
  exact ⟨D, h1.mono hk, h2⟩
theorem VM.congr {m' : Int → Option Value} (h : VM w b n m) (hm : ∀ i, wfV i → m i = m' i) : VM w b n m' := by
  obtain ⟨D, h1, h2⟩ := h
  exact ⟨D, h1, fun i hi => by rw [← hm i hi]; exact h2 i hi⟩
theorem SaysV.put {D : DataW Value} (h : SaysV D m) (hm : IsMap D) (c : Int) (v : Value) : SaysV (D.put (.int .i64 c) (.held v)) (putV m c v) := by
  intro i hi
  unfold putV
  by_cases e : i = c
  · subst e
    rw [if_pos rfl, has_put_same hm (keyV i)]
    exact ⟨fun z => atKey_put_same hm (keyV i) _ _, rfl⟩
  · rw [if_neg e, has_put_other (Z5f e)]
    exact ⟨fun z => by rw [atKey_put_other (Z5f e)]; exact (h i hi).1 z, (h i hi).2⟩
theorem SaysV.del {D : DataW Value} (h : SaysV D m) (c : Int) : SaysV (D.del (.int .i64 c)) (delV m c) := by
  intro i hi
  unfold delV
  by_cases e : i = c
  · subst e
    rw [if_pos rfl, has_del_same]
    exact ⟨fun z => atKey_del_same _, rfl⟩
  · rw [if_neg e, has_del_other (Z5f e)]
    exact ⟨fun z => by rw [atKey_del_other (Z5f e)]; exact (h i hi).1 z, (h i hi).2⟩
variable {t e : TypeId} {z : Value}
theorem VM.look (h : VM w b n m) (ht : Try.prog.underlying t = some (.map 3 e)) (hz : (zeroValue e).run Try.prog w = .ok z w) {c : Int} (hc : wfV c) :
    (Instr.lookup t (.map (some b)) (.int .i64 c) false).run Try.prog w = .ok ((m c).getD z) w := by
  obtain ⟨D, h1, h2⟩ := h
  obtain ⟨v, ps, hrun, hv⟩ := h1.lookup Z2z ht hz (zd := .held z) (zp := []) rfl (Z3q hc)
  rw [(h2 c hc).1] at hv
  unfold heldE at hv
  rw [hrun]
  cases hm : m c with
  | none => rw [hm] at hv; simp [orV] at hv; rw [hv.1]; rfl
  | some x => rw [hm] at hv; simp [orV] at hv; rw [hv.1]; rfl
theorem VM.look_ok (h : VM w b n m) (ht : Try.prog.underlying t = some (.map 3 e)) (hz : (zeroValue e).run Try.prog w = .ok z w) {c : Int} (hc : wfV c) :
    (Instr.lookup t (.map (some b)) (.int .i64 c) true).run Try.prog w = .ok (.tuple #[(m c).getD z, .bool (m c).isSome]) w := by
  obtain ⟨D, h1, h2⟩ := h
  obtain ⟨v, ps, hrun, hv⟩ := h1.look_ok Z2z ht hz (zd := .held z) (zp := []) rfl (Z3q hc)
  rw [(h2 c hc).1] at hv
  unfold heldE at hv
  rw [hrun, (h2 c hc).2]
  cases hm : m c with
  | none => rw [hm] at hv; simp [orV] at hv; rw [hv.1]; rfl
  | some x => rw [hm] at hv; simp [orV] at hv; rw [hv.1]; rfl
theorem VM.store (h : VM w b n m) (ht : Try.prog.underlying t = some (.map 3 e)) (hn : n < maxLen) {c : Int} (hc : wfV c) (v : Value) :
    ∃ w', (Instr.mapUpdate t (.map (some b)) (.int .i64 c) v).run Try.prog w = .ok () w' ∧ VM w' b (n + 1) (putV m c v) ∧ Chg [b] w w' := by
  obtain ⟨D, h1, h2⟩ := h
  obtain ⟨w', hrun, h3, h4⟩ := h1.update Z2z ht hn (Z3q hc) (d := .held v) (ps := []) rfl
  exact ⟨w', hrun, ⟨_, h3, h2.put h1.isMap c v⟩, Chg.of_grown h4⟩
theorem VM.drop (h : VM w b n m) (ht : Try.prog.underlying t = some (.map 3 e)) {c : Int} (hc : wfV c) (ty : TypeId) :
    ∃ w', (Builtin.delete_ #[t, 3] ty #[.map (some b), .int .i64 c]).run Try.prog w = .ok (.tuple #[]) w' ∧ VM w' b n (delV m c) ∧ Chg [b] w w' := by
  obtain ⟨D, h1, h2⟩ := h
  obtain ⟨w', hrun, h3, h4⟩ := h1.drop Z2z ht (Z3q hc) ty
  exact ⟨w', hrun, ⟨_, h3, h2.del c⟩, Chg.of_grown h4.grown⟩
end
section
variable {ops : Array Oper} {rest : List Oper} {o : Oper} {a : Act} {Q : Exit → Act → World → Prop} {K : Act → World → Prop} {w : World} {b n : Nat} {m : Int → Option Value}
end
/-- 'for k, v := range m' under way: 'left' are to come. -/
def VR (w : World) (b r n : Nat) (m : Int → Option Value) (left : Int → Bool) (cnt : Nat) : Prop :=
  ∃ (D : DataW Value) (l : Lit → Bool), w.ranges Try.prog 3 heldE b r n D l cnt ∧ SaysV D m ∧ ∀ i, wfV i → l (.int .i64 i) = left i
section
variable {w w' : World} {b r n cnt : Nat} {m : Int → Option Value} {left : Int → Bool}
theorem VR.vm (h : VR w b r n m left cnt) : VM w b n m := by
  obtain ⟨D, l, h1, h2, h3⟩ := h
  exact ⟨D, h1.owns, h2⟩
theorem VR.ne (h : VR w b r n m left cnt) : r ≠ b := by
  obtain ⟨D, l, h1, h2, h3⟩ := h
  exact h1.ne
theorem VR.lt (h : VR w b r n m left cnt) : r < w.heap.size := by
  obtain ⟨D, l, h1, h2, h3⟩ := h
  exact h1.lt
theorem VR.same (h : VR w b r n m left cnt) (hb : w'.heap[b]? = w.heap[b]?) (hr : w'.heap[r]? = w.heap[r]?) : VR w' b r n m left cnt := by
  obtain ⟨D, l, ⟨es, clock, since, seen, c0, h1, h2, h3, h4, h5, h6⟩, h7⟩ := h
  exact ⟨D, l, ⟨es, clock, since, seen, c0, hb.trans h1, h2, h3, h4, hr.trans h5, h6⟩, h7⟩
theorem VR.chg {F : List Nat} (h : VR w b r n m left cnt) (k : Chg F w w') (hb : b ∉ F) (hr : r ∉ F) : VR w' b r n m left cnt := h.same (k.block b h.vm.lt hb) (k.block r h.lt hr)
theorem VR.ext (h : VR w b r n m left cnt) (k : Ext w w') : VR w' b r n m left cnt := h.same (k.block b h.vm.lt) (k.block r h.lt)
variable {ops : Array Oper} {rest : List Oper} {o : Oper} {a : Act} {Q : Exit → Act → World → Prop}
end
/-- A map as a thing. -/
def tMap (b n : Nat) (m : Int → Option Value) : Thing where
  foot := [b]
  holds := fun w => VM w b n m
  keep := fun w w' _ h hb => hb.same (h b (by simp))
  lt := fun w h i hi => by
    simp at hi
    subst hi
    exact h.lt

/-- The string of these bytes. -/
def sB (l : List UInt8) : ByteArray := ⟨l.toArray⟩
theorem Z22 (l : List UInt8) : (sB l).size = l.length := List.size_toArray
theorem sB_of (s : ByteArray) : sB s.data.toList = s := by cases s; simp [sB]
theorem Z5v (l : List UInt8) : (sB l).toList = l := by rw [ByteArray.toList_eq]; rfl
theorem sB_app (l m : List UInt8) : sB l ++ sB m = sB (l ++ m) := by
  have : (sB l ++ sB m).data.toList = l ++ m := by simp [sB]
  rw [← sB_of (sB l ++ sB m), this]
theorem Z7m (l : List UInt8) (i j : Nat) : (sB l).extract i j = sB ((l.take j).drop i) := by
  have : ((sB l).extract i j).data.toList = (l.take j).drop i := by
    simp [sB, List.drop_take]
  rw [← sB_of ((sB l).extract i j), this]
section
variable {P : Program} {w w' : World} {o : Oper} {ρ : Operand → Value} {t u : TypeId} {x y : Operand} {l m : List UInt8}
theorem x_str {op : BinOp} {v : Value} (ho : o.op = .binOp op t x y u) (hx : ρ x = .string (sB l)) (hy : ρ y = .string (sB m)) (hg : (eqGuard op t x y (.string (sB l)) (.string (sB m))).run P w = .ok () w) (h : (binOp op t (.string (sB l)) (.string (sB m))).run P w = .ok v w) : (execOp ρ o).run P w = .ok (.value v) w := by
  unfold execOp
  simp only [ho, hx, hy]
  simp [hg, h]
theorem x_cat (ho : o.op = .binOp .add t x y u) (hx : ρ x = .string (sB l)) (hy : ρ y = .string (sB m)) (h : l.length + m.length ≤ 9223372036854775807) : (execOp ρ o).run P w = .ok (.value (.string (sB (l ++ m)))) w := by
  refine x_str ho hx hy (by simp [eqGuard]) ?_
  have h1 : ¬ ((((sB l).size + (sB m).size : Nat) : Int) > IntKind.i64.max) := by
    rw [Z22, Z22]
    have : IntKind.i64.max = 9223372036854775807 := by decide
    omega
  simp only [binOp, Op.stringOp]
  rw [if_neg h1, sB_app]
  rfl
theorem x_eqs (ho : o.op = .binOp .eql t x y u) (hx : ρ x = .string (sB l)) (hy : ρ y = .string (sB m)) : (execOp ρ o).run P w = .ok (.value (.bool (decide (l = m)))) w := by
  refine x_str ho hx hy (by simp [eqGuard]) ?_
  by_cases h : l = m <;> simp [binOp, Op.stringOp, Z5v, h]
theorem x_nes (ho : o.op = .binOp .neq t x y u) (hx : ρ x = .string (sB l)) (hy : ρ y = .string (sB m)) : (execOp ρ o).run P w = .ok (.value (.bool (decide (l ≠ m)))) w := by
  refine x_str ho hx hy (by simp [eqGuard]) ?_
  by_cases h : l = m <;> simp [binOp, Op.stringOp, Z5v, h]
theorem x_len_l (hu : P.underlying t = some .string) (ho : o.op = .call { callee := .builtin .len, args := #[x], argTypes := #[t] }) (hx : ρ x = .string (sB l)) : (execOp ρ o).run P w = .ok (.value (.int .i64 (l.length : Int))) w := by
  have := x_len_s (P := P) (w := w) hu ho hx
  rwa [Z22] at this
end
section
variable {P : Program} {w : World} {o : Oper} {ρ : Operand → Value} {t u : TypeId} {x y : Operand}
end
section
variable {P : Program} {w : World} {o : Oper} {ρ : Operand → Value} {t : TypeId} {x y : Operand} {a b : Int}
theorem x_max (ho : o.op = .call { callee := .builtin .max, args := #[x, y], argTypes := #[t, t] }) (hx : ρ x = .int .i64 a) (hy : ρ y = .int .i64 b) : (execOp ρ o).run P w = .ok (.value (.int .i64 (max a b))) w := by
  unfold execOp
  simp only [ho, resolve, invoke, builtin, Sem.run_bind, Sem.run_pure, Result.andThen_ok, List.map_toArray, List.map_cons, List.map_nil, hx, hy]
  have e : max a b = if b > a then b else a := by split <;> omega
  rw [e]
  simp [Builtin.max_, Builtin.max2]
theorem x_min (ho : o.op = .call { callee := .builtin .min, args := #[x, y], argTypes := #[t, t] }) (hx : ρ x = .int .i64 a) (hy : ρ y = .int .i64 b) : (execOp ρ o).run P w = .ok (.value (.int .i64 (min a b))) w := by
  unfold execOp
  simp only [ho, resolve, invoke, builtin, Sem.run_bind, Sem.run_pure, Result.andThen_ok, List.map_toArray, List.map_cons, List.map_nil, hx, hy]
  have e : min a b = if b < a then b else a := by split <;> omega
  rw [e]
  simp [Builtin.min_, Builtin.min2]
end
/-! Maps. -/
section
variable {w : World} {b n : Nat} {m : Int → Option Value} {o : Oper} {ρ : Operand → Value} {t e : TypeId} {mo x : Operand} {z : Value} {c : Int}
theorem Z5r (h : VM w b n m) (ho : o.op = .lookup t mo x false) (ht : Try.prog.underlying t = some (.map 3 e)) (hz : (zeroValue e).run Try.prog w = .ok z w) (hm : ρ mo = .map (some b)) (hx : ρ x = .int .i64 c) (hc : wfV c) : (execOp ρ o).run Try.prog w = .ok (.value ((m c).getD z)) w := by
  simp [execOp, ho, hm, hx, h.look ht hz hc]
end
/-! A value that is put: on with a new frame. -/
section
variable {P : Program} {Q : Exit → Act → World → Prop} {a a0 : Act} {w' : World} {n : Nat} {D : List Tmp} {ops : Array Oper} {rest : List Oper} {v : Value}
theorem put_F (d : Tmp) (hE : Env a0 D a) (k : Fr n a0) (hn : Nat.blt d n = true) (hD : D.contains d = true)
    (hk : ∀ a', Env a0 D a' → a'.eval (.tmp d) = v → (∀ t, Nat.beq t d = false → a'.eval (.tmp t) = a.eval (.tmp t)) → wpList P ops Q rest a' w') : wpList P ops Q rest (a.put (some d) v) w' :=
  hk _ (hE.put hD v) (Z0g (by rw [hE.size, k.size]; exact Nat.le_of_ble_eq_true hn)) (fun t ht => Z10 ht v)
end
section
variable {P : Program} {Q : Exit → Act → World → Prop} {a : Act} {w w' : World} {ops : Array Oper} {rest : List Oper} {o : Oper} {v : Value}
theorem Z50 (hd : o.dst = none) (hg : o.guard = none) (h : (execOp a.eval o).run P w = .ok (.value v) w') (hk : wpList P ops Q rest a w') : wpList P ops Q (o :: rest) a w := by
  refine wpList_plain hg fun K hK => Z0z h (hK _ _ ?_)
  rw [hd]
  exact hk
end
section
variable {P : Program} {Q : Exit → Act → World → Prop} {a a0 : Act} {w : World} {n : Nat} {D : List Tmp} {ops : Array Oper} {rest : List Oper} {o : Oper}
/-- A new map. -/
theorem Z7j {H : Nat} {A : World} {L : List Thing} (O : OwnT H A L w) (d : Tmp) (hE : Env a0 D a) (k : Fr n a0) (hd : o.dst = some d) (hn : Nat.blt d n = true) (hD : D.contains d = true) (hg : o.guard = none)
    (h : (execOp a.eval o).run P w = .ok (.value (.map (some w.heap.size))) (w.alloc (.map #[] 0)))
    (hk : ∀ g a' w', OwnT H A (tMap g 0 (fun _ => none) :: L) w' → Env a0 D a' → a'.eval (.tmp d) = .map (some g) → (∀ t, Nat.beq t d = false → a'.eval (.tmp t) = a.eval (.tmp t)) → wpList P ops Q rest a' w') : wpList P ops Q (o :: rest) a w :=
  Z1r d hE k hd hn hD hg h (fun a' h1 h2 h3 => hk _ a' _ (O.cons (Ext.alloc w _) (tMap w.heap.size 0 (fun _ => none)) (VM.made w) (fun i hi => by simp [tMap] at hi; omega)) h1 h2 h3)
end
theorem last_skip {P : Program} {Q : Exit → Act → World → Prop} {a : Act} {w w' : World} {o : Oper} (hd : o.dst = none) (h : (execOp a.eval o).run P w = .ok .skip w') (hk : Q .normal a w') : o.wp P a w (fun a w => Q .normal a w) Q := by
  refine Z1t h ?_
  rw [hd]
  exact hk
/-! Rows of single cells. -/
section
variable {H : Nat} {A w w' : World} {L : List Thing} {T : TypeId} {g n cap : Nat} {xs : List Value}
end
theorem OwnT.upd {H : Nat} {A w : World} {R : List Thing} {g : Nat} {t : TypeId} {cs cs' : Array Value} {w' : World} (h : OwnT H A (tBlk g t cs :: R) w) (k : Upd w g t cs' w') : OwnT H A (tBlk g t cs' :: R) w' :=
  h.call (F := [g]) (Chg.of_grown k.grown) (fun i hi => by simpa [tBlk] using hi) (tBlk g t cs') k.blk (fun i hi => .inl hi)
end Go.Proofs.Ytbfgacmfjfbooaa
