/- Rows of elements of k cells: copy, clear, append at a place; rows as things. No function of the program in sight. -/
import Derived.Test.YtgdlnfljfiageaaDoorKGridBack04
import Derived.Laws.CopyOwn
import Derived.Laws.OwnMore
import Derived.Lib.AppendZerosOnto
import Derived.Maps.RangeWalk
import Derived.Maps.OwnSet
import Derived.Maps.OwnOps
namespace Go.Proofs.YtgdlnfljfiageaaDoor
set_option linter.unusedVariables false
set_option linter.unusedSimpArgs false
open Go.RowKit Go.Maps Go.ChangeMaps Go.MapKept Go.WideShapes

/-- A row of one's own as a thing. -/
def tRow (T : TypeId) (k : Nat) (v : Value) (n : Nat) (xs : List Value) : Thing where
  foot := v.ownBlock.toList
  holds := fun w => w.ownsRow 0 T k v n xs
  keep := fun w w' _ h hb => by
    refine ⟨hb.1, ?_⟩
    rcases hb.2 with hn | ⟨g, cap, cur, rfl, hg, hgb, rest⟩
    · exact .inl hn
    · exact .inr ⟨g, cap, cur, rfl, hg, (h g (by simp [Value.ownBlock])).trans hgb, rest⟩
  lt := fun w h i hi => (h.lt i (by simpa using hi)).2
/-- What a row that is not nil is. -/
theorem Z79 {w : World} {T : TypeId} {k n : Nat} {v : Value} {xs : List Value} (h : w.ownsRow 0 T k v n xs) (hn : 0 < n) : ∃ g cap cur, v = .slice (some ⟨g, 0, none⟩) n cap ∧ Blk w g T cur ∧ n ≤ cap ∧ cap ≤ maxLen ∧ cur.size = cap * k ∧ cur.toList.take (n * k) = xs := by
  rcases h.2 with ⟨_, rfl⟩ | ⟨g, cap, cur, rfl, _, h1, h2, h3, h4, h5⟩
  · omega
  · exact ⟨g, cap, cur, rfl, h1, h2, h3, h4, h5⟩
theorem Z82 {w : World} {T : TypeId} {k n g cap : Nat} {cur : Array Value} {xs : List Value} (h1 : Blk w g T cur) (h2 : n ≤ cap) (h3 : cap ≤ maxLen) (h4 : cur.size = cap * k) (h5 : cur.toList.take (n * k) = xs) :
    w.ownsRow 0 T k (.slice (some ⟨g, 0, none⟩) n cap) n xs := by
  have hc : n * k ≤ cap * k := Nat.mul_le_mul_right k h2
  refine ⟨?_, .inr ⟨g, cap, cur, rfl, Nat.zero_le _, h1, h2, h3, h4, h5⟩⟩
  rw [← h5, List.length_take, Array.length_toList, h4]
  omega
theorem OwnT.row {H : Nat} {A w w' : World} {L : List Thing} {T : TypeId} {k n n' : Nat} {v v' : Value} {xs xs' : List Value} (h : OwnT H A (tRow T k v n xs :: L) w) (hr : w'.ownsRow 0 T k v' n' xs') (hg : w.grownBy w' v.ownBlock)
    (hf : v'.ownBlock = v.ownBlock ∨ ∃ j, v'.ownBlock = some j ∧ w.heap.size ≤ j) : OwnT H A (tRow T k v' n' xs' :: L) w' := by
  refine h.call (F := v.ownBlock.toList) ⟨hg.os, hg.tape, hg.output, hg.size, fun i hi hn => hg.block i hi (fun e => hn (by rw [← e]; simp))⟩ (fun i hi => hi) (tRow T k v' n' xs') hr (fun i hi => ?_)
  rcases hf with e | ⟨j, e, hj⟩
  · exact .inl (by simp only [tRow] at hi ⊢; rw [← e]; exact hi)
  · simp only [tRow, e, Option.toList_some, List.mem_singleton] at hi
    exact .inr (by omega)
theorem OwnT.r0 {H : Nat} {A w : World} {L : List Thing} {T : TypeId} {k n : Nat} {v : Value} {xs : List Value} (h : OwnT H A (tRow T k v n xs :: L) w) : w.ownsRow 0 T k v n xs := h.all.1
theorem OwnT.b0 {H : Nat} {A w : World} {L : List Thing} {b : Nat} {t : TypeId} {cs : Array Value} (h : OwnT H A (tBlk b t cs :: L) w) : Blk w b t cs := h.all.1
theorem OwnT.b1 {H : Nat} {A w : World} {X : Thing} {L : List Thing} {b : Nat} {t : TypeId} {cs : Array Value} (h : OwnT H A (X :: tBlk b t cs :: L) w) : Blk w b t cs := h.all.2.1
theorem OwnT.b2 {H : Nat} {A w : World} {X Y : Thing} {L : List Thing} {b : Nat} {t : TypeId} {cs : Array Value} (h : OwnT H A (X :: Y :: tBlk b t cs :: L) w) : Blk w b t cs := h.all.2.2.1
section
variable {P : Program}
/-- append to a row of one's own: which block it lies in then. -/
theorem Z1e (w : World) (t ty e : TypeId) (i : TypeInfo) (z : Value) (size bytes : Nat) (ht : P.underlying t = some (.slice e)) (hi : P.info? e = some i) (hz : i.zero = some z)
    (hsize : i.size = size) (hby : i.bytes = bytes) (hzs : z.cells.size = size) (hsz : 0 < size) (v : Value) (n : Nat) (xs : List Value) (hown : w.ownsRow 0 e size v n xs)
    (a : Addr) (m c : Nat) (news : List Value) (hl : news.length = m * size) (hnews : ∀ j u, news[j]? = some u → w.cell? (a.add j) = some u) (h1 : ∀ u ∈ news, u.oneCell' = true)
    (h63 : n + m ≤ maxLen) (hbytes : (n + m) * bytes ≤ 140737488355328) :
    ∃ v' w', (Builtin.append_ #[t, t] ty #[v, .slice (some a) m c]).run P w = .ok v' w' ∧ w'.ownsRow 0 e size v' (n + m) (xs ++ news) ∧ w.grownBy w' v.ownBlock ∧
      (v'.ownBlock = v.ownBlock ∨ ∃ k, v'.ownBlock = some k ∧ w.heap.size ≤ k) := by
  obtain ⟨v', w', hrun, h2, h3, h4⟩ := run_append_own (P := P) w 0 t ty e i z size bytes ht hi hz hsize hby hzs hsz v n xs hown a m c news hl hnews h1 h63 hbytes (Nat.zero_le _)
  refine ⟨v', w', hrun, h2, h3, ?_⟩
  subst hsize hby
  rcases hown.2 with ⟨rfl, rfl⟩ | ⟨g, cap, cur, rfl, hbg, hg, hnc, hcm, hcs, htake⟩
  · by_cases hm : m = 0
    · obtain rfl := (h4.2 ⟨rfl, hm⟩)
      exact .inl rfl
    · have hr := run_append_nil (P := P) w t ty e i z ht hi hz a m c news hl hnews (by omega) (by have := h63; unfold maxLen at this; omega) (by have hb := hbytes; simp only [Nat.zero_add] at hb; omega)
      rw [hr] at hrun
      injection hrun with e1 e2
      subst e1
      exact .inr ⟨w.heap.size, rfl, Nat.le_refl _⟩
  · by_cases hroom : n + m ≤ cap
    · have hfit : n * i.size + news.length ≤ cur.size := by rw [hl, hcs, ← Nat.add_mul]; exact Nat.mul_le_mul_right _ hroom
      have hr := run_append_room (P := P) w t ty e i ht hi g n cap cur hg a m c news hl hnews h1 hroom hfit
      rw [hr] at hrun
      injection hrun with e1 e2
      subst e1
      exact .inl rfl
    · have holds : ∀ j u, xs[j]? = some u → w.cell? ((⟨g, 0, none⟩ : Addr).add j) = some u := hown.cells (g := g) rfl
      have hr := run_append_grow (P := P) w t ty e i z ht hi hz ⟨g, 0, none⟩ n cap xs hown.1 holds a m c news hl hnews (by omega) (by have := h63; unfold maxLen at this; omega) (growslice_fits (by omega) hbytes)
      rw [hr] at hrun
      injection hrun with e1 e2
      subst e1
      exact .inr ⟨w.heap.size, rfl, Nat.le_refl _⟩
end
end Go.Proofs.YtgdlnfljfiageaaDoor

/- Maps with int keys and whatever elements: what they say of each int. -/
namespace Go.Proofs.YtgdlnfljfiageaaDoor
set_option linter.unusedVariables false
set_option linter.unusedSimpArgs false
open Go.RowKit Go.Maps

/-- An element reads as itself. -/
def heldE (v : Value) : Option (DataW Value × List MemPlace) := some (.held v, [])
theorem Z4m : Keyed Tryd.prog 3 := int_keyed Tryd.underlying3
abbrev wfV (i : Int) : Prop := (Lit.int .i64 i).wf = true
theorem Z4o {i : Int} (h : wfV i) : keyOf Tryd.prog 3 (.int .i64 i) = some (.int .i64 i) := keyOf_int_mk Tryd.underlying3 h
theorem keyV (i : Int) : WideAt.IsKeyLit (.int .i64 i) := trivial
theorem Z32 {i c : Int} (h : i ≠ c) : (Lit.int .i64 i) ≠ (Lit.int .i64 c) := fun e => h (by injection e)
def orV (o : Option Value) (z : DataW Value) : DataW Value := match o with | some v => .held v | none => z
def SaysV (D : DataW Value) (m : Int → Option Value) : Prop := ∀ i, wfV i → (∀ z, D.atKey (.int .i64 i) z = orV (m i) z) ∧ Maps.has D (.int .i64 i) = (m i).isSome
/-- Block b is a map of at most n entries that says m. -/
def VM (w : World) (b n : Nat) (m : Int → Option Value) : Prop := ∃ D : DataW Value, w.ownsMap Tryd.prog 3 heldE b n D ∧ SaysV D m
def putV (m : Int → Option Value) (c : Int) (v : Value) : Int → Option Value := fun i => if i = c then some v else m i
def delV (m : Int → Option Value) (c : Int) : Int → Option Value := fun i => if i = c then none else m i
section
variable {w w' : World} {b n : Nat} {m : Int → Option Value}
theorem VM.lt (h : VM w b n m) : b < w.heap.size := by
  obtain ⟨D, h1, h2⟩ := h
  exact h1.lt
theorem VM.same (h : VM w b n m) (hb : w'.heap[b]? = w.heap[b]?) : VM w' b n m := by
  obtain ⟨D, ⟨es, clock, h1, h2⟩, h3⟩ := h
  exact ⟨D, ⟨es, clock, hb.trans h1, h2⟩, h3⟩
theorem VM.ext (h : VM w b n m) (k : Ext w w') : VM w' b n m := h.same (k.block b h.lt)
theorem VM.chg {F : List Nat} (h : VM w b n m) (k : Chg F w w') (hb : b ∉ F) : VM w' b n m := h.same (k.block b h.lt hb)
theorem VM.mono (h : VM w b n m) {k : Nat} (hk : n ≤ k) : VM w b k m := by
  obtain ⟨D, h1, h2⟩ := h
  exact ⟨D, h1.mono hk, h2⟩
theorem VM.congr {m' : Int → Option Value} (h : VM w b n m) (hm : ∀ i, wfV i → m i = m' i) : VM w b n m' := by
  obtain ⟨D, h1, h2⟩ := h
  exact ⟨D, h1, fun i hi => by rw [← hm i hi]; exact h2 i hi⟩
theorem SaysV.put {D : DataW Value} (h : SaysV D m) (hm : IsMap D) (c : Int) (v : Value) : SaysV (D.put (.int .i64 c) (.held v)) (putV m c v) := by
  intro i hi
  unfold putV
  by_cases e : i = c
  · subst e
    rw [if_pos rfl, has_put_same hm (keyV i)]
    exact ⟨fun z => atKey_put_same hm (keyV i) _ _, rfl⟩
  · rw [if_neg e, has_put_other (Z32 e)]
    exact ⟨fun z => by rw [atKey_put_other (Z32 e)]; exact (h i hi).1 z, (h i hi).2⟩
theorem SaysV.del {D : DataW Value} (h : SaysV D m) (c : Int) : SaysV (D.del (.int .i64 c)) (delV m c) := by
  intro i hi
  unfold delV
  by_cases e : i = c
  · subst e
    rw [if_pos rfl, has_del_same]
    exact ⟨fun z => atKey_del_same _, rfl⟩
  · rw [if_neg e, has_del_other (Z32 e)]
    exact ⟨fun z => by rw [atKey_del_other (Z32 e)]; exact (h i hi).1 z, (h i hi).2⟩
variable {t e : TypeId} {z : Value}
theorem VM.store (h : VM w b n m) (ht : Tryd.prog.underlying t = some (.map 3 e)) (hn : n < maxLen) {c : Int} (hc : wfV c) (v : Value) :
    ∃ w', (Instr.mapUpdate t (.map (some b)) (.int .i64 c) v).run Tryd.prog w = .ok () w' ∧ VM w' b (n + 1) (putV m c v) ∧ Chg [b] w w' := by
  obtain ⟨D, h1, h2⟩ := h
  obtain ⟨w', hrun, h3, h4⟩ := h1.update Z4m ht hn (Z4o hc) (d := .held v) (ps := []) rfl
  exact ⟨w', hrun, ⟨_, h3, h2.put h1.isMap c v⟩, Chg.of_grown h4⟩
theorem VM.drop (h : VM w b n m) (ht : Tryd.prog.underlying t = some (.map 3 e)) {c : Int} (hc : wfV c) (ty : TypeId) :
    ∃ w', (Builtin.delete_ #[t, 3] ty #[.map (some b), .int .i64 c]).run Tryd.prog w = .ok (.tuple #[]) w' ∧ VM w' b n (delV m c) ∧ Chg [b] w w' := by
  obtain ⟨D, h1, h2⟩ := h
  obtain ⟨w', hrun, h3, h4⟩ := h1.drop Z4m ht (Z4o hc) ty
  exact ⟨w', hrun, ⟨_, h3, h2.del c⟩, Chg.of_grown h4.grown⟩
end
section
variable {ops : Array Oper} {rest : List Oper} {o : Oper} {a : Act} {Q : Exit → Act → World → Prop} {K : Act → World → Prop} {w : World} {b n : Nat} {m : Int → Option Value}
end
/-- 'for k, v := range m' under way: 'left' are to come. -/
def VR (w : World) (b r n : Nat) (m : Int → Option Value) (left : Int → Bool) (cnt : Nat) : Prop :=
  ∃ (D : DataW Value) (l : Lit → Bool), w.ranges Tryd.prog 3 heldE b r n D l cnt ∧ SaysV D m ∧ ∀ i, wfV i → l (.int .i64 i) = left i
section
variable {w w' : World} {b r n cnt : Nat} {m : Int → Option Value} {left : Int → Bool}
theorem VR.vm (h : VR w b r n m left cnt) : VM w b n m := by
  obtain ⟨D, l, h1, h2, h3⟩ := h
  exact ⟨D, h1.owns, h2⟩
theorem VR.ne (h : VR w b r n m left cnt) : r ≠ b := by
  obtain ⟨D, l, h1, h2, h3⟩ := h
  exact h1.ne
theorem VR.lt (h : VR w b r n m left cnt) : r < w.heap.size := by
  obtain ⟨D, l, h1, h2, h3⟩ := h
  exact h1.lt
theorem VR.same (h : VR w b r n m left cnt) (hb : w'.heap[b]? = w.heap[b]?) (hr : w'.heap[r]? = w.heap[r]?) : VR w' b r n m left cnt := by
  obtain ⟨D, l, ⟨es, clock, since, seen, c0, h1, h2, h3, h4, h5, h6⟩, h7⟩ := h
  exact ⟨D, l, ⟨es, clock, since, seen, c0, hb.trans h1, h2, h3, h4, hr.trans h5, h6⟩, h7⟩
theorem VR.chg {F : List Nat} (h : VR w b r n m left cnt) (k : Chg F w w') (hb : b ∉ F) (hr : r ∉ F) : VR w' b r n m left cnt := h.same (k.block b h.vm.lt hb) (k.block r h.lt hr)
theorem VR.ext (h : VR w b r n m left cnt) (k : Ext w w') : VR w' b r n m left cnt := h.same (k.block b h.vm.lt) (k.block r h.lt)
variable {ops : Array Oper} {rest : List Oper} {o : Oper} {a : Act} {Q : Exit → Act → World → Prop}
end
end Go.Proofs.YtgdlnfljfiageaaDoor

/- Strings as lists of bytes, and what operations on them yield; rows, maps, writers at an operation. No function of the program in sight. -/
namespace Go.Proofs.YtgdlnfljfiageaaDoor
set_option linter.unusedVariables false
set_option linter.unusedSimpArgs false
open Go.RowKit Go.Maps

/-- The string of these bytes. -/
def sB (l : List UInt8) : ByteArray := ⟨l.toArray⟩
theorem Z5v (l : List UInt8) : (sB l).data.toList = l := rfl
theorem Z0m (l : List UInt8) : (sB l).size = l.length := List.size_toArray
theorem Z78 (s : ByteArray) : sB s.data.toList = s := by cases s; simp [sB]
theorem Z3h (l : List UInt8) : (sB l).toList = l := by rw [ByteArray.toList_eq]; rfl
theorem sB_app (l m : List UInt8) : sB l ++ sB m = sB (l ++ m) := by
  have : (sB l ++ sB m).data.toList = l ++ m := by simp [sB]
  rw [← Z78 (sB l ++ sB m), this]
theorem Z81 (l : List UInt8) (i j : Nat) : (sB l).extract i j = sB ((l.take j).drop i) := by
  have : ((sB l).extract i j).data.toList = (l.take j).drop i := by
    simp [sB, List.drop_take]
  rw [← Z78 ((sB l).extract i j), this]
section
variable {P : Program} {w w' : World} {o : Oper} {ρ : Operand → Value} {t u : TypeId} {x y : Operand} {l m : List UInt8}
theorem Z87 {op : BinOp} {v : Value} (ho : o.op = .binOp op t x y u) (hx : ρ x = .string (sB l)) (hy : ρ y = .string (sB m)) (hg : (eqGuard op t x y (.string (sB l)) (.string (sB m))).run P w = .ok () w) (h : (binOp op t (.string (sB l)) (.string (sB m))).run P w = .ok v w) : (execOp ρ o).run P w = .ok (.value v) w := by
  unfold execOp
  simp only [ho, hx, hy]
  simp [hg, h]
theorem Z6v (ho : o.op = .binOp .add t x y u) (hx : ρ x = .string (sB l)) (hy : ρ y = .string (sB m)) (h : l.length + m.length ≤ 9223372036854775807) : (execOp ρ o).run P w = .ok (.value (.string (sB (l ++ m)))) w := by
  refine Z87 ho hx hy (by simp [eqGuard]) ?_
  have h1 : ¬ ((((sB l).size + (sB m).size : Nat) : Int) > IntKind.i64.max) := by
    rw [Z0m, Z0m]
    have : IntKind.i64.max = 9223372036854775807 := by decide
    omega
  simp only [binOp, Op.stringOp]
  rw [if_neg h1, sB_app]
  rfl
theorem Z25 (ho : o.op = .binOp .eql t x y u) (hx : ρ x = .string (sB l)) (hy : ρ y = .string (sB m)) : (execOp ρ o).run P w = .ok (.value (.bool (decide (l = m)))) w := by
  refine Z87 ho hx hy (by simp [eqGuard]) ?_
  by_cases h : l = m <;> simp [binOp, Op.stringOp, Z3h, h]
theorem Z89 (ho : o.op = .binOp .neq t x y u) (hx : ρ x = .string (sB l)) (hy : ρ y = .string (sB m)) : (execOp ρ o).run P w = .ok (.value (.bool (decide (l ≠ m)))) w := by
  refine Z87 ho hx hy (by simp [eqGuard]) ?_
  by_cases h : l = m <;> simp [binOp, Op.stringOp, Z3h, h]
theorem Z45 {h : Operand} {k : IntKind} {n : Int} (hu : P.underlying t = some .string) (ho : o.op = .slice t x none (some h) none) (hx : ρ x = .string (sB l)) (hh : ρ h = .int k n) (j : Nat) (hn : n = (j : Nat)) (hb : j ≤ l.length) : (execOp ρ o).run P w = .ok (.value (.string (sB (l.take j)))) w := by
  subst hn
  have hb' : ((j : Int) ≤ (sB l).size) := by rw [Z0m]; omega
  unfold execOp
  simp only [ho, Option.map_none, Option.map_some, hx, hh]
  simp [Instr.sliceAt, Instr.slice, Instr.sliceBounds, Instr.sliceBound, run_underlying hu, asIntOf, hb', Z81]
  intro h; rw [Z0m] at h; omega
theorem Z6u {h : Operand} {k : IntKind} {n : Int} (hu : P.underlying t = some .string) (ho : o.op = .slice t x (some h) none none) (hx : ρ x = .string (sB l)) (hh : ρ h = .int k n) (j : Nat) (hn : n = (j : Nat)) (hb : j ≤ l.length) : (execOp ρ o).run P w = .ok (.value (.string (sB (l.drop j)))) w := by
  subst hn
  have hb' : ((j : Int) ≤ (sB l).size) := by rw [Z0m]; omega
  unfold execOp
  simp only [ho, Option.map_none, Option.map_some, hx, hh]
  simp [Instr.sliceAt, Instr.slice, Instr.sliceBounds, Instr.sliceBound, run_underlying hu, asIntOf, hb', Z81, Z0m]
  intro h; omega
theorem Z2v (hu : P.underlying t = some .string) (ho : o.op = .call { callee := .builtin .len, args := #[x], argTypes := #[t] }) (hx : ρ x = .string (sB l)) : (execOp ρ o).run P w = .ok (.value (.int .i64 (l.length : Int))) w := by
  have := Z8b (P := P) (w := w) hu ho hx
  rwa [Z0m] at this
end
section
variable {P : Program} {w : World} {o : Oper} {ρ : Operand → Value} {t u : TypeId} {x y : Operand}
end
section
variable {P : Program} {w : World} {o : Oper} {ρ : Operand → Value} {t : TypeId} {x y : Operand} {a b : Int}
theorem Z8a (ho : o.op = .call { callee := .builtin .max, args := #[x, y], argTypes := #[t, t] }) (hx : ρ x = .int .i64 a) (hy : ρ y = .int .i64 b) : (execOp ρ o).run P w = .ok (.value (.int .i64 (max a b))) w := by
  unfold execOp
  simp only [ho, resolve, invoke, builtin, Sem.run_bind, Sem.run_pure, Result.andThen_ok, List.map_toArray, List.map_cons, List.map_nil, hx, hy]
  have e : max a b = if b > a then b else a := by split <;> omega
  rw [e]
  simp [Builtin.max_, Builtin.max2]
theorem x_min (ho : o.op = .call { callee := .builtin .min, args := #[x, y], argTypes := #[t, t] }) (hx : ρ x = .int .i64 a) (hy : ρ y = .int .i64 b) : (execOp ρ o).run P w = .ok (.value (.int .i64 (min a b))) w := by
  unfold execOp
  simp only [ho, resolve, invoke, builtin, Sem.run_bind, Sem.run_pure, Result.andThen_ok, List.map_toArray, List.map_cons, List.map_nil, hx, hy]
  have e : min a b = if b < a then b else a := by split <;> omega
  rw [e]
  simp [Builtin.min_, Builtin.min2]
end
/-! Maps. -/
section
variable {w : World} {b n : Nat} {m : Int → Option Value} {o : Oper} {ρ : Operand → Value} {t e : TypeId} {mo x : Operand} {z : Value} {c : Int}
end
/-! A value that is put: on with a new frame. -/
section
variable {P : Program} {Q : Exit → Act → World → Prop} {a a0 : Act} {w' : World} {n : Nat} {D : List Tmp} {ops : Array Oper} {rest : List Oper} {v : Value}
end
section
variable {P : Program} {Q : Exit → Act → World → Prop} {a : Act} {w w' : World} {ops : Array Oper} {rest : List Oper} {o : Oper} {v : Value}
end
section
variable {P : Program} {Q : Exit → Act → World → Prop} {a a0 : Act} {w : World} {n : Nat} {D : List Tmp} {ops : Array Oper} {rest : List Oper} {o : Oper}
end
/-! Rows of single cells. -/
section
variable {H : Nat} {A w w' : World} {L : List Thing} {T : TypeId} {g n cap : Nat} {xs : List Value}
theorem Z3j (h : w.ownsRow 0 T 1 (.slice (some ⟨g, 0, none⟩) n cap) n xs) {i : Nat} {v : Value} (hi : xs[i]? = some v) : w.cell? ⟨g, i, none⟩ = some v ∧ w.frozen? ⟨g, i, none⟩ = false := by
  have hil : i < xs.length := (List.getElem?_eq_some_iff.1 hi).1
  rcases h.2 with ⟨h1, _⟩ | ⟨g', cap', cur, h1, _, hb, h2, h3, h4, h5⟩
  · cases h1
  · injection h1 with h1 _ _
    injection h1 with h1
    injection h1 with h1 _ _
    subst h1
    refine ⟨?_, Blk.frozen (show Blk w g T cur from hb) i⟩
    rw [Blk.cell (show Blk w g T cur from hb) i, ← Array.getElem?_toList]
    rw [← h5] at hi
    rwa [List.getElem?_take_of_lt (by have := h.1; omega)] at hi
theorem Z7b (h : w.ownsRow 0 T 1 (.slice (some ⟨g, 0, none⟩) n cap) n xs) {i : Nat} (hi : i < n) (u : Value) : (w.setCell ⟨g, i, none⟩ u).ownsRow 0 T 1 (.slice (some ⟨g, 0, none⟩) n cap) n (xs.set i u) := by
  rcases h.2 with ⟨h1, _⟩ | ⟨g', cap', cur, h1, _, hb, h2, h3, h4, h5⟩
  · cases h1
  · injection h1 with h1 _ hc
    injection h1 with h1
    injection h1 with h1 _ _
    subst h1 hc
    refine Z82 (Blk.set_ (show Blk w g T cur from hb) i u) h2 h3 (by simpa using h4) ?_
    rw [Array.toList_setIfInBounds, List.take_set, h5]
theorem OwnT.setRow1 (O : OwnT H A (tRow T 1 (.slice (some ⟨g, 0, none⟩) n cap) n xs :: L) w) {i : Nat} (hi : i < n) (u : Value) : OwnT H A (tRow T 1 (.slice (some ⟨g, 0, none⟩) n cap) n (xs.set i u) :: L) (w.setCell ⟨g, i, none⟩ u) :=
  O.call (F := [g]) (Chg.of_grown (Z0w (World.grownBy.refl w _) (.inl rfl) u)) (fun i hi => by simpa [tRow, Value.ownBlock] using hi) (tRow T 1 _ n (xs.set i u)) (Z7b O.r0 hi u) (fun i hi => .inl hi)
end
end Go.Proofs.YtgdlnfljfiageaaDoor
