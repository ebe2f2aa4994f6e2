/- A row that the call makes by append, beside blocks of its own. -/
import Derived.Test.YtojilbacloegjaaKHeatOrder02
import Derived.Test.YtojilbacloegjaaKHeatOrder04
namespace Go.Proofs.Ytojilbacloegjaa
set_option linter.unusedVariables false
set_option linter.unusedSimpArgs false
open Go.RowKit

/-- Blocks of one's own, and a row of one's own apart from them: n elements of c cells. -/
structure ORow (H : Nat) (A : World) (L : List BlkD) (e : TypeId) (c : Nat) (v : Value) (n : Nat) (cs : List Value) (w : World) : Prop where
  own : Own H A L w
  row : w.ownsRowF H e c v n cs
  apart : ∀ x ∈ L, v.ownBlock ≠ some x.1
/-- Blocks of other types than T stay as they are. -/
def KeepT (T : TypeId) (w w' : World) : Prop := ∀ k t cs, t ≠ T → Blk w k t cs → Blk w' k t cs
section
variable {H : Nat} {A w w' : World} {L L1 L2 : List BlkD} {e t T : TypeId} {c n m b : Nat} {v v' : Value} {xs ys : List Value} {cs cs' : Array Value}
theorem KeepT.refl (T : TypeId) (w : World) : KeepT T w w := fun _ _ _ _ h => h
theorem KeepT.of_ext (h : Ext w w') : KeepT T w w' := fun _ _ _ _ hb => hb.ext h
theorem blk_type {k : Nat} {t t' : TypeId} {cs cs' : Array Value} (h : Blk w k t cs) (h' : Blk w k t' cs') : t = t' := by
  unfold Blk at h h'
  rw [h] at h'
  injection h' with h'
  injection h'
theorem KeepT.of_upd (h : Blk w b T cs) (hg : w.grownBy w' (some b)) : KeepT T w w' := fun k t cs' ht hb =>
  hb.grown hg (by intro e; injection e with e; subst e; exact ht (blk_type hb h))

theorem ORow.start (h : Own H A L w) (e : TypeId) (c : Nat) : ORow H A L e c (.slice none 0 0) 0 [] w :=
  ⟨h, World.ownsRowF_nil w H e c, fun _ _ h => by simp [Value.ownBlock] at h⟩
theorem ORow.ext (h : ORow H A L e c v n xs w) (k : Ext w w') : ORow H A L e c v n xs w' :=
  ⟨h.own.ext k, h.row.kept (only_of_below k none) (Classical.em _), h.apart⟩
theorem ORow.new (h : ORow H A L e c v n xs w) (t : TypeId) (cs : Array Value) : ORow H A ((w.heap.size, t, cs) :: L) e c v n xs (w.alloc (.cells cs t)) :=
  ⟨h.own.new t cs, h.row.kept (only_of_below (Ext.alloc w _) none) (Classical.em _), fun x hx he => by
    rcases List.mem_cons.1 hx with rfl | hx
    · exact absurd (h.row.lt _ he).2 (by simp)
    · exact h.apart x hx he⟩
theorem ORow.put (h : ORow H A L e c v n xs w) (hL : L = L1 ++ (b, t, cs) :: L2) (cs' : Array Value) (hg : w.grownBy w' (some b)) (hb : Blk w' b t cs') : ORow H A (L1 ++ (b, t, cs') :: L2) e c v n xs w' := by
  refine ⟨h.own.put hL cs' hg hb, h.row.kept hg (.inr (h.apart (b, t, cs) (by rw [hL]; simp))), fun x hx => ?_⟩
  subst hL
  rcases List.mem_append.1 hx with hx | hx
  · exact h.apart x (by simp [hx])
  · rcases List.mem_cons.1 hx with rfl | hx
    · exact h.apart (b, t, cs) (by simp)
    · exact h.apart x (by simp [hx])
theorem ORow.set (h : ORow H A L e c v n xs w) (hL : L = L1 ++ (b, t, cs) :: L2) (i : Nat) (u : Value) : ORow H A (L1 ++ (b, t, cs.setIfInBounds i u) :: L2) e c v n xs (w.setCell ⟨b, i, none⟩ u) :=
  h.put hL _ (only_setCell (World.grownBy.refl w _) (.inl rfl) u) ((h.own.all.mem (x := (b, t, cs)) (by rw [hL]; simp) : Blk w b t cs).set_ i u)
theorem ORow.grow (h : ORow H A L e c v n xs w) (h2 : w'.ownsRowF H e c v' m ys) (hg : w.grownBy w' v.ownBlock) (h4 : v'.ownBlock = v.ownBlock ∨ ∃ k, v'.ownBlock = some k ∧ w.heap.size ≤ k) : ORow H A L e c v' m ys w' := by
  refine ⟨?_, h2, fun x hx he => ?_⟩
  · cases hv : v.ownBlock with
    | none =>
      rw [hv] at hg
      exact h.own.ext ⟨hg.os, hg.tape, hg.output, hg.size, fun i hi => hg.block i hi (by simp)⟩
    | some g =>
      rw [hv] at hg
      exact h.own.far (h.row.lt g hv).1 (fun x hx e => h.apart x hx (by rw [hv, e])) hg
  · rcases h4 with h4 | ⟨k, h4, hk⟩
    · rw [h4] at he; exact h.apart x hx he
    · rw [h4] at he; injection he with he; have := h.own.lt hx; omega
theorem ORow.tail {x : BlkD} (h : ORow H A (x :: L) e c v n xs w) : ORow H A L e c v n xs w := ⟨h.own.tail, h.row, fun y hy => h.apart y (by simp [hy])⟩
theorem ORow.slice (h : ORow H A L e c v n xs w) : ∃ B cap, v = .slice B n cap := by
  rcases h.row.2 with ⟨rfl, rfl⟩ | ⟨g, cap, cur, fz, rfl, _⟩
  · exact ⟨none, 0, rfl⟩
  · exact ⟨some ⟨g, 0, none⟩, cap, rfl⟩
/-- It is a row of data. -/
theorem flat_get {E : Type} {enc : E → List Value} {c : Nat} (hc : ∀ x, (enc x).length = c) : ∀ (xs : List E) (i : Nat) (x : E) (j : Nat) (u : Value), xs[i]? = some x → (enc x)[j]? = some u → (xs.flatMap enc)[i * c + j]? = some u
  | [], i, x, j, u, h, _ => by simp at h
  | y :: ys, 0, x, j, u, h, hu => by
    simp at h
    subst h
    have hj : j < (enc y).length := (List.getElem?_eq_some_iff.1 hu).1
    rw [List.flatMap_cons, Nat.zero_mul, Nat.zero_add, List.getElem?_append_left hj]
    exact hu
  | y :: ys, i + 1, x, j, u, h, hu => by
    have := flat_get hc ys i x j u (by simpa using h) hu
    rw [List.flatMap_cons, List.getElem?_append_right (by rw [hc, Nat.add_mul]; omega), hc]
    rw [show (i + 1) * c + j - c = i * c + j by rw [Nat.add_mul]; omega]
    exact this
theorem ORow.rows {E : Type} {enc : E → List Value} {zs : List E} (h : ORow H A L e c v n (zs.flatMap enc) w) (hc : ∀ x, (enc x).length = c) (hn : zs.length = n) :
    ∃ B cap, v = .slice B n cap ∧ n ≤ cap ∧ cap ≤ maxLen ∧ Row w B c enc zs := by
  rcases h.row.2 with ⟨rfl, rfl⟩ | ⟨g, cap, cur, fz, rfl, hb, hg, hfz, hcap, hmax, hcs, ht⟩
  · refine ⟨none, 0, rfl, Nat.le_refl _, by decide, fun i x hx => ?_⟩
    have : zs = [] := List.length_eq_zero_iff.1 hn
    subst this
    simp at hx
  · refine ⟨some ⟨g, 0, none⟩, cap, rfl, hcap, hmax, fun i x hx => ⟨g, 0, rfl, (Array.getElem?_eq_some_iff.1 hg).1, fun j u hu => ?_⟩⟩
    have := h.row.cells (g := g) rfl (i * c + j) u (flat_get hc zs i x j u hx hu)
    have hadd : (⟨g, 0, none⟩ : Addr).add (i * c + j) = ⟨g, i * c + j, none⟩ := by unfold Addr.add; split <;> simp_all
    rw [hadd] at this
    rw [Nat.zero_add]
    exact this

variable {P : Program}
/-- append of elements that lie in a block. -/
theorem ORow.append {o : Oper} {a : Act} {K : Act → World → Prop} {Q : Exit → Act → World → Prop} (h : ORow H A L e c v n xs w) (s x : Operand) (t : TypeId)
    (ho : o.op = .call { callee := .builtin .append, args := #[s, x], argTypes := #[t, t] })
    (i : TypeInfo) (z : Value) (bytes : Nat) (ht : P.underlying t = some (.slice e)) (hi : P.info? e = some i) (hz : i.zero = some z)
    (hsize : i.size = c) (hby : i.bytes = bytes) (hzs : z.cells.size = c) (hsz : 0 < c)
    (hs : a.eval s = v) (g m cp : Nat) (news : List Value) (hx : a.eval x = .slice (some ⟨g, 0, none⟩) m cp) (tg : TypeId) (hb : Blk w g tg news.toArray) (hl : news.length = m * c) (h1 : ∀ u ∈ news, u.oneCell' = true)
    (h63 : n + m ≤ maxLen) (hbytes : (n + m) * bytes ≤ 140737488355328)
    (hk : ∀ v' w', ORow H A L e c v' (n + m) (xs ++ news) w' → w.grownBy w' v.ownBlock → K (a.put o.dst v') w') : o.wp P a w K Q := by
  obtain ⟨v', w', hr, h2, h3, h4⟩ := buf_append_cells (P := P) w H t o.type e i z c bytes ht hi hz hsize hby hzs hsz v n xs h.row ⟨g, 0, none⟩ m cp news hl (fun j u hu => by
    have := hb.cell j
    have hadd : (⟨g, 0, none⟩ : Addr).add j = ⟨g, j, none⟩ := by unfold Addr.add; split <;> simp_all
    rw [hadd, this]
    simpa using hu) h1 h63 hbytes h.own.size
  unfold Oper.wp execOp
  simp only [ho, resolve, invoke, builtin, Sem.run_bind, Sem.run_pure, Result.andThen_ok, List.map_toArray, List.map_cons, List.map_nil, hs, hx, hr]
  exact hk _ _ (h.grow h2 h3 h4) h3
end
end Go.Proofs.Ytojilbacloegjaa

/- Heat: Hot. -/
namespace Go.Proofs.Ytojilbacloegjaa
set_option linter.unusedVariables false
set_option linter.unusedSimpArgs false
open Go.RowKit Go.Maps Go.Shelf Go.Sort

/-- slices.Sort's two contracts at this translation, at the fence that asks nothing. -/
theorem sortsA (m : Nat) : AnyZI.SortsIn Try.prog Try.sortedA_ren Fence.wide m :=
  ⟨fun blk off cap ss W hH hblk hsz => callsIn_wide.2 (AnyM.slices_Sort_int Try.sortA blk off cap ss W hH hblk hsz),
   fun p cap W => callsIn_wide.2 (AnyM.slices_Sort_int_none Try.sortA p cap W)⟩

set_option maxHeartbeats 1000000 in
theorem hot_raw (b nn pb : Nat) (D0 : DataW Unit) (w : World) (hown : w.ownsMap Try.prog 3 (plainElem Try.prog 3) b nn D0) (hmax : Maps.size D0 ≤ maxLen) (hbytes : Maps.size D0 * 8 ≤ 140737488355328)
    (q0 : w.cell? ⟨pb, 0, none⟩ = some (.map (some b))) :
    Calls Try.prog 21 #[.pointer (some ⟨pb, 0, none⟩)] w fun e w' => ∃ (v : Value) (ss : List Int), e = .returned v ∧ ss.Perm (intKeys D0) ∧
      w'.ownsRow w.heap.size 3 1 v ss.length ((ss.mergeSort (fun x y => decide (x ≤ y))).map encZ) ∧ (v = .slice none 0 0 ↔ ss = []) ∧ Below w.heap.size w w' := by
  refine (callsIn_wide (n := 6)).1 ?_
  have hbl := hown.lt
  have hseq : SeqGives Fence.wide 2 Try.prog 34 #[.pointer (some ⟨w.heap.size, 0, none⟩)] encZ (fun ss => ss.Perm (intKeys D0)) (Maps.size D0) (w.alloc (.cells #[.map (some b)] 66)) :=
    AnyZI.keys_gives (ρ := Try.keysA_ren) { Try.keysA with } Fence.wide _ trivial rfl (by omega) w.heap.size b nn D0 _ (by simp) (by simp) (by
      obtain ⟨es, clock, hb, Ft, hs, hD⟩ := hown
      exact ⟨es, clock, (Below.heap_alloc _ _ b hbl).trans hb, Ft, hs, hD⟩)
  have cK : ∀ mb W, CallsIn Fence.wide 5 Try.prog 31 #[.map mb] W fun e w' => e = .returned (.func (.func 34) #[] #[.pointer (some ⟨W.heap.size, 0, none⟩)]) ∧ w' = W.alloc (.cells #[.map mb] 66) := fun mb W => AnyZI.keys_in Try.keysA Fence.wide 5 trivial rfl mb W
  have cS := AnyZI.sorted_in Try.sortedA Fence.wide 5 trivial trivial trivial trivial rfl (by omega) (sortsA _) (enters_of Try.func33 (by kernel_rfl) rfl) 34 #[.pointer (some ⟨w.heap.size, 0, none⟩)] trivial (enters_of Try.func34 (by kernel_rfl) rfl) _ _ hmax hbytes _ hseq
  change CallsIn _ _ Try.prog 30 _ _ _ at cS
  have hfK : Fence.wide.fn 31 := trivial
  have hfS : Fence.wide.fn 30 := trivial
  refine callsIn_of_wp Try.func21 rfl trivial ?_ rfl
  simp only [Try.ntmps21, List.size_toArray, List.length_cons, List.length_nil, Nat.reduceAdd, Nat.reduceSub, Array.replicate_succ, Array.replicate_zero, List.push_toArray, List.append_toArray, List.nil_append, List.cons_append]
  gi_wp2_with (first
    | (gi_at_call 31; refine (cK _ _).mono ?_; rintro e w' ⟨rfl, rfl⟩)
    | (gi_at_call 30; refine cS.mono ?_; rintro e w' ⟨v, ss, rfl, hS, hrow, hnil, hb⟩))
  go_ret
  exact ⟨v, ss, rfl, hS, ownsRow_base_a hrow (by simp), hnil, ((Below.refl _ w).alloc (Nat.le_refl _) _).trans (hb.mono (by simp))⟩

theorem hot_any (w : World) (pb mb n : Nat) (u : Int → Int) (hB : Bk w pb mb n u) (hH : Heats u) (hn : n ≤ 1000000) :
    Calls Try.prog 21 #[.pointer (some ⟨pb, 0, none⟩)] w fun e w' => ∃ B cap, e = .returned (.slice B (hotL u).length cap) ∧ (hotL u).length ≤ cap ∧ cap ≤ maxLen ∧ Row w' B 1 (fun x => [Value.int .i64 x]) (hotL u) ∧ Ext w w' := by
  obtain ⟨D0, hown, hD⟩ := hB.hb
  have q0 := hB.blk.cell 0
  simp at q0
  have hsz := hown.size_le
  refine (hot_raw mb n pb D0 w hown (by unfold maxLen; omega) (by omega) q0).mono ?_
  rintro e w' ⟨v, ss, rfl, hperm, hrow, _, hb⟩
  have hp := hotL_perm hown hD hH
  have hL : ss.mergeSort (fun x y => decide (x ≤ y)) = hotL u := by
    have h1 := mergeSort_of_perm_i (hperm.trans hp.symm)
    rw [hotL_sorted] at h1
    exact h1
  have hlen : ss.length = (hotL u).length := (hperm.trans hp.symm).length_eq
  rw [hL, hlen] at hrow
  have hl1 : (hotL u).map encZ = (hotL u).flatMap (fun x => [Value.int .i64 x]) := by
    induction hotL u with
    | nil => rfl
    | cons x l ih => rw [List.map_cons, List.flatMap_cons, ih]; rfl
  have OR : ORow w.heap.size w [] 3 1 v (hotL u).length ((hotL u).flatMap (fun x => [Value.int .i64 x])) w' := ⟨(Own.start w).ext hb, by rw [← hl1]; exact World.ownsRowF_of hrow, by simp⟩
  obtain ⟨B, cap, rfl, h1, h2, h3⟩ := OR.rows (fun _ => rfl) rfl
  exact ⟨B, cap, rfl, h1, h2, h3, hb⟩
end Go.Proofs.Ytojilbacloegjaa

/- Things of one's own: what holds of some blocks; below H all is as it was. -/
namespace Go.Proofs.Ytojilbacloegjaa
set_option linter.unusedVariables false
set_option linter.unusedSimpArgs false
open Go.RowKit

/-- Only the blocks of F, and what is new, have turned. -/
structure Chg (F : List Nat) (w w' : World) : Prop where
  os : w'.os = w.os
  tape : w'.tape = w.tape
  output : w'.output = w.output
  size : w.heap.size ≤ w'.heap.size
  block : ∀ i, i < w.heap.size → i ∉ F → w'.heap[i]? = w.heap[i]?
/-- What holds of the blocks 'foot', whatever becomes of others. -/
structure Thing where
  foot : List Nat
  holds : World → Prop
  keep : ∀ w w', w.heap.size ≤ w'.heap.size → (∀ i ∈ foot, w'.heap[i]? = w.heap[i]?) → holds w → holds w'
  lt : ∀ w, holds w → ∀ i ∈ foot, i < w.heap.size
section
variable {F G : List Nat} {w w' w'' : World}
theorem Chg.refl (F : List Nat) (w : World) : Chg F w w := ⟨rfl, rfl, rfl, Nat.le_refl _, fun _ _ _ => rfl⟩
theorem Chg.trans (h : Chg F w w') (k : Chg F w' w'') : Chg F w w'' :=
  ⟨k.os.trans h.os, k.tape.trans h.tape, k.output.trans h.output, Nat.le_trans h.size k.size, fun i hi hn => (k.block i (Nat.lt_of_lt_of_le hi h.size) hn).trans (h.block i hi hn)⟩
/-- Behind a change, a change of what is new or was changed. -/
theorem Chg.trans' (h : Chg F w w') (k : Chg G w' w'') (hG : ∀ i ∈ G, i ∈ F ∨ w.heap.size ≤ i) : Chg F w w'' :=
  ⟨k.os.trans h.os, k.tape.trans h.tape, k.output.trans h.output, Nat.le_trans h.size k.size, fun i hi hn => (k.block i (Nat.lt_of_lt_of_le hi h.size) (fun hg => by
    rcases hG i hg with h1 | h1
    · exact hn h1
    · omega)).trans (h.block i hi hn)⟩
theorem Chg.mono (h : Chg F w w') (hF : ∀ i ∈ F, i ∈ G ∨ w.heap.size ≤ i) : Chg G w w' :=
  ⟨h.os, h.tape, h.output, h.size, fun i hi hn => h.block i hi (fun hf => by
    rcases hF i hf with h1 | h1
    · exact hn h1
    · omega)⟩
theorem Chg.of_ext (h : Ext w w') (F : List Nat) : Chg F w w' := ⟨h.os, h.tape, h.output, h.size, fun i hi _ => h.block i hi⟩
theorem Chg.ext (h : Chg [] w w') : Ext w w' := ⟨h.os, h.tape, h.output, h.size, fun i hi => h.block i hi (by simp)⟩
theorem Chg.of_grown {b : Nat} (h : w.grownBy w' (some b)) : Chg [b] w w' := ⟨h.os, h.tape, h.output, h.size, fun i hi hn => h.block i hi (by simpa using hn)⟩
theorem Chg.grown {b : Nat} (h : Chg [b] w w') : w.grownBy w' (some b) := ⟨h.os, h.tape, h.output, h.size, fun i hi hn => h.block i hi (by simpa using hn)⟩
theorem Chg.drew (h : Chg F w w') : Chg F w w'.drew := ⟨h.os, h.tape, h.output, h.size, h.block⟩
theorem Chg.alloc (h : Chg F w w') (o : Obj) : Chg F w (w'.alloc o) := h.trans (Chg.of_ext (Ext.alloc w' o) F)
theorem Chg.set (h : Chg F w w') {p : Addr} (hp : p.block ∈ F ∨ w.heap.size ≤ p.block) (u : Value) : Chg F w (w'.setCell p u) :=
  h.trans' (G := [p.block]) (Chg.of_grown (only_setCell (World.grownBy.refl w' _) (.inl rfl) u)) (fun i hi => by
    simp at hi
    subst hi
    exact hp)
theorem Chg.blk (h : Chg F w w') {g : Nat} {t : TypeId} {cs : Array Value} (hb : Blk w g t cs) (hg : g ∉ F) : Blk w' g t cs := (h.block g hb.lt hg).trans hb
theorem Chg.below {H : Nat} {A : World} (h : Chg F w w') (hb : Below H A w) (hs : H ≤ w.heap.size) (hF : ∀ i ∈ F, H ≤ i) : Below H A w' :=
  ⟨h.os.trans hb.os, h.tape.trans hb.tape, h.output.trans hb.output, Nat.le_trans hb.size h.size, fun i hi => (h.block i (by omega) (fun hf => by have := hF i hf; omega)).trans (hb.block i hi)⟩
end
/-- A block of cells. -/
def tBlk (b : Nat) (t : TypeId) (cs : Array Value) : Thing where
  foot := [b]
  holds := fun w => Blk w b t cs
  keep := fun w w' _ h hb => (h b (by simp)).trans hb
  lt := fun w h i hi => by simp at hi; subst hi; exact h.lt

def Ths (w : World) : List Thing → Prop
  | [] => True
  | x :: L => x.holds w ∧ Ths w L
structure OwnT (H : Nat) (A : World) (L : List Thing) (w : World) : Prop where
  below : Below H A w
  size : H ≤ w.heap.size
  all : Ths w L
  high : ∀ x ∈ L, ∀ i ∈ x.foot, H ≤ i
  diff : L.Pairwise fun x y => ∀ i ∈ x.foot, i ∉ y.foot
section
variable {H : Nat} {A w w' : World} {L L1 L2 : List Thing} {T T' : Thing} {F : List Nat}
theorem Ths.mem (h : Ths w L) (hx : T ∈ L) : T.holds w := by
  induction L with
  | nil => cases hx
  | cons y L ih =>
    rcases List.mem_cons.1 hx with rfl | hx
    · exact h.1
    · exact ih h.2 hx
theorem Ths.of (h : ∀ x ∈ L, x.holds w) : Ths w L := by
  induction L with
  | nil => trivial
  | cons x L ih => exact ⟨h x (by simp), ih fun y hy => h y (by simp [hy])⟩
theorem OwnT.start (w : World) : OwnT w.heap.size w [] w := ⟨Below.refl _ _, Nat.le_refl _, trivial, (fun _ h => by cases h), List.Pairwise.nil⟩
theorem OwnT.lt (h : OwnT H A L w) (hx : T ∈ L) {i : Nat} (hi : i ∈ T.foot) : i < w.heap.size := T.lt w (h.all.mem hx) i hi
theorem OwnT.at_ (h : OwnT H A L w) (hx : T ∈ L) : T.holds w := h.all.mem hx
theorem OwnT.t0 (h : OwnT H A (T :: L) w) : T.holds w := h.all.1
theorem OwnT.t1 {X : Thing} (h : OwnT H A (X :: T :: L) w) : T.holds w := h.all.2.1
theorem OwnT.t2 {X Y : Thing} (h : OwnT H A (X :: Y :: T :: L) w) : T.holds w := h.all.2.2.1
theorem OwnT.t3 {X Y Z : Thing} (h : OwnT H A (X :: Y :: Z :: T :: L) w) : T.holds w := h.all.2.2.2.1
theorem OwnT.t4 {X Y Z U : Thing} (h : OwnT H A (X :: Y :: Z :: U :: T :: L) w) : T.holds w := h.all.2.2.2.2.1
theorem OwnT.t5 {X Y Z U V : Thing} (h : OwnT H A (X :: Y :: Z :: U :: V :: T :: L) w) : T.holds w := h.all.2.2.2.2.2.1
/-- What is not of F stays. -/
theorem Thing.chg (T : Thing) (h : T.holds w) (k : Chg F w w') (hF : ∀ i ∈ T.foot, i ∉ F) : T.holds w' :=
  T.keep w w' k.size (fun i hi => k.block i (T.lt w h i hi) (hF i hi)) h
theorem OwnT.ext (h : OwnT H A L w) (k : Ext w w') : OwnT H A L w' :=
  ⟨h.below.trans (k.mono h.size), Nat.le_trans h.size k.size, Ths.of fun x hx => x.chg (h.all.mem hx) (Chg.of_ext k []) (by simp), h.high, h.diff⟩
theorem OwnT.drew (h : OwnT H A L w) : OwnT H A L w.drew := h.ext (Ext.drew w)
theorem OwnT.other (h : OwnT H A L w) (o : Obj) : OwnT H A L (w.alloc o) := h.ext (Ext.alloc w o)
theorem OwnT.perm (h : OwnT H A L w) {M : List Thing} (hp : L.Perm M) : OwnT H A M w :=
  ⟨h.below, h.size, Ths.of fun x hx => h.all.mem (hp.mem_iff.2 hx), fun x hx => h.high x (hp.mem_iff.2 hx),
   hp.pairwise h.diff (fun {x y} hxy i hi hj => hxy i hj hi)⟩
theorem OwnT.sub (h : OwnT H A L w) {M : List Thing} (hp : M.Sublist L) : OwnT H A M w :=
  ⟨h.below, h.size, Ths.of fun x hx => h.all.mem (hp.subset hx), fun x hx => h.high x (hp.subset hx), h.diff.sublist hp⟩
theorem OwnT.tail (h : OwnT H A (T :: L) w) : OwnT H A L w := h.sub (List.sublist_cons_self T L)
/-- The thing there comes to the front. -/
theorem OwnT.front (h : OwnT H A L w) (L1 : List Thing) (hL : L = L1 ++ T :: L2) : OwnT H A (T :: (L1 ++ L2)) w := h.perm (hL ▸ List.perm_middle)
/-- A new thing. -/
theorem OwnT.cons (h : OwnT H A L w) (k : Ext w w') (T : Thing) (hT : T.holds w') (hf : ∀ i ∈ T.foot, w.heap.size ≤ i) : OwnT H A (T :: L) w' := by
  have h1 := h.ext k
  refine ⟨h1.below, h1.size, ⟨hT, h1.all⟩, fun x hx i hi => ?_, List.Pairwise.cons (fun y hy i hi hj => ?_) h.diff⟩
  · rcases List.mem_cons.1 hx with rfl | hx
    · have := hf i hi; have := h.size; omega
    · exact h.high x hx i hi
  · have := hf i hi
    have := h.lt hy hj
    omega
theorem OwnT.new (h : OwnT H A L w) (t : TypeId) (cs : Array Value) : OwnT H A (tBlk w.heap.size t cs :: L) (w.alloc (.cells cs t)) :=
  h.cons (Ext.alloc w _) (tBlk w.heap.size t cs) (Blk.new w t cs) (fun i hi => by simp [tBlk] at hi; omega)
/-- The first thing has turned, and what is new. -/
theorem OwnT.call (h : OwnT H A (T :: L) w) (k : Chg F w w') (hF : ∀ i ∈ F, i ∈ T.foot) (T' : Thing) (hT : T'.holds w') (hf : ∀ i ∈ T'.foot, i ∈ T.foot ∨ w.heap.size ≤ i) : OwnT H A (T' :: L) w' := by
  have hd := List.pairwise_cons.1 h.diff
  refine ⟨k.below h.below h.size (fun i hi => h.high T (by simp) i (hF i hi)), Nat.le_trans h.size k.size, ⟨hT, Ths.of fun x hx => x.chg (h.all.mem (by simp [hx])) k (fun i hi hf => hd.1 x hx i (hF i hf) hi)⟩, fun x hx i hi => ?_, List.Pairwise.cons (fun y hy i hi hj => ?_) hd.2⟩
  · rcases List.mem_cons.1 hx with rfl | hx
    · rcases hf i hi with h1 | h1
      · exact h.high T (by simp) i h1
      · have := h.size; omega
    · exact h.high x (by simp [hx]) i hi
  · rcases hf i hi with h1 | h1
    · exact hd.1 y hy i h1 hj
    · have := h.lt (T := y) (by simp [hy]) hj
      omega
/-- Two things have turned. -/
theorem OwnT.call2 {S S' : Thing} (h : OwnT H A (S :: T :: L) w) (k : Chg F w w') (hF : ∀ i ∈ F, i ∈ S.foot ∨ i ∈ T.foot) (S' T' : Thing) (hS : S'.holds w') (hT : T'.holds w') (hs : ∀ i ∈ S'.foot, i ∈ S.foot ∨ w.heap.size ≤ i) (hf : ∀ i ∈ T'.foot, i ∈ T.foot ∨ w.heap.size ≤ i)
    (hd : ∀ i ∈ S'.foot, i ∉ T'.foot) : OwnT H A (S' :: T' :: L) w' := by
  have hd1 := List.pairwise_cons.1 h.diff
  have hd2 := List.pairwise_cons.1 hd1.2
  have hlow : ∀ (i : Nat) (X X' : Thing), X ∈ S :: T :: L → (∀ i ∈ X'.foot, i ∈ X.foot ∨ w.heap.size ≤ i) → i ∈ X'.foot → H ≤ i := fun i X X' hX hx hi => by
    rcases hx i hi with h1 | h1
    · exact h.high X hX i h1
    · have := h.size; omega
  refine ⟨k.below h.below h.size (fun i hi => ?_), Nat.le_trans h.size k.size, ⟨hS, hT, Ths.of fun x hx => x.chg (h.all.mem (by simp [hx])) k (fun i hi hf => ?_)⟩, fun x hx i hi => ?_, ?_⟩
  · rcases hF i hi with h1 | h1
    · exact h.high S (by simp) i h1
    · exact h.high T (by simp) i h1
  · rcases hF i hf with h1 | h1
    · exact hd1.1 x (by simp [hx]) i h1 hi
    · exact hd2.1 x hx i h1 hi
  · rcases List.mem_cons.1 hx with rfl | hx
    · exact hlow i S x (by simp) hs hi
    · rcases List.mem_cons.1 hx with rfl | hx
      · exact hlow i T x (by simp) hf hi
      · exact h.high x (by simp [hx]) i hi
  · refine List.Pairwise.cons (fun y hy i hi hj => ?_) (List.Pairwise.cons (fun y hy i hi hj => ?_) hd2.2)
    · rcases List.mem_cons.1 hy with rfl | hy
      · exact hd i hi hj
      · rcases hs i hi with h1 | h1
        · exact hd1.1 y (by simp [hy]) i h1 hj
        · have := h.lt (T := y) (by simp [hy]) hj
          omega
    · rcases hf i hi with h1 | h1
      · exact hd2.1 y hy i h1 hj
      · have := h.lt (T := y) (by simp [hy]) hj
        omega
/-- A cell of a block. -/
theorem OwnT.set {b : Nat} {t : TypeId} {cs : Array Value} (h : OwnT H A (tBlk b t cs :: L) w) (i : Nat) (u : Value) : OwnT H A (tBlk b t (cs.setIfInBounds i u) :: L) (w.setCell ⟨b, i, none⟩ u) :=
  h.call (F := [b]) (Chg.of_grown (only_setCell (World.grownBy.refl w _) (.inl rfl) u)) (fun i hi => by simpa [tBlk] using hi) (tBlk b t (cs.setIfInBounds i u)) ((h.all.1 : Blk w b t cs).set_ i u) (fun i hi => .inl (by simpa [tBlk] using hi))
end
end Go.Proofs.Ytojilbacloegjaa
