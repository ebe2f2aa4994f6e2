/- Rows of elements of k cells: copy, clear, append at a place; rows as things. No function of the program in sight. -/
import Derived.Test.YtakkhglbdljfiaaGreatDoorKStoreShadows03
import Derived.Laws.CopyOwn
import Derived.Laws.OwnMore
import Derived.Lib.AppendZerosOnto
import Derived.Maps.RangeWalk
import Derived.Maps.OwnSet
import Derived.Maps.OwnOps
namespace Go.Proofs.YtakkhglbdljfiaaGreatDoor
set_option linter.unusedVariables false
set_option linter.unusedSimpArgs false
open Go.RowKit Go.Maps Go.ChangeMaps Go.MapKept Go.WideShapes

/-- A row of one's own as a thing. -/
def tRow (T : TypeId) (k : Nat) (v : Value) (n : Nat) (xs : List Value) : Thing where
  foot := v.ownBlock.toList
  holds := fun w => w.ownsRow 0 T k v n xs
  keep := fun w w' _ h hb => by
    refine ⟨hb.1, ?_⟩
    rcases hb.2 with hn | ⟨g, cap, cur, rfl, hg, hgb, rest⟩
    · exact .inl hn
    · exact .inr ⟨g, cap, cur, rfl, hg, (h g (by simp [Value.ownBlock])).trans hgb, rest⟩
  lt := fun w h i hi => (h.lt i (by simpa using hi)).2
/-- What a row that is not nil is. -/
theorem Z2z {w : World} {T : TypeId} {k n : Nat} {v : Value} {xs : List Value} (h : w.ownsRow 0 T k v n xs) (hn : 0 < n) : ∃ g cap cur, v = .slice (some ⟨g, 0, none⟩) n cap ∧ Blk w g T cur ∧ n ≤ cap ∧ cap ≤ maxLen ∧ cur.size = cap * k ∧ cur.toList.take (n * k) = xs := by
  rcases h.2 with ⟨_, rfl⟩ | ⟨g, cap, cur, rfl, _, h1, h2, h3, h4, h5⟩
  · omega
  · exact ⟨g, cap, cur, rfl, h1, h2, h3, h4, h5⟩
theorem row_of {w : World} {T : TypeId} {k n g cap : Nat} {cur : Array Value} {xs : List Value} (h1 : Blk w g T cur) (h2 : n ≤ cap) (h3 : cap ≤ maxLen) (h4 : cur.size = cap * k) (h5 : cur.toList.take (n * k) = xs) :
    w.ownsRow 0 T k (.slice (some ⟨g, 0, none⟩) n cap) n xs := by
  have hc : n * k ≤ cap * k := Nat.mul_le_mul_right k h2
  refine ⟨?_, .inr ⟨g, cap, cur, rfl, Nat.zero_le _, h1, h2, h3, h4, h5⟩⟩
  rw [← h5, List.length_take, Array.length_toList, h4]
  omega
theorem OwnT.row {H : Nat} {A w w' : World} {L : List Thing} {T : TypeId} {k n n' : Nat} {v v' : Value} {xs xs' : List Value} (h : OwnT H A (tRow T k v n xs :: L) w) (hr : w'.ownsRow 0 T k v' n' xs') (hg : w.grownBy w' v.ownBlock)
    (hf : v'.ownBlock = v.ownBlock ∨ ∃ j, v'.ownBlock = some j ∧ w.heap.size ≤ j) : OwnT H A (tRow T k v' n' xs' :: L) w' := by
  refine h.call (F := v.ownBlock.toList) ⟨hg.os, hg.tape, hg.output, hg.size, fun i hi hn => hg.block i hi (fun e => hn (by rw [← e]; simp))⟩ (fun i hi => hi) (tRow T k v' n' xs') hr (fun i hi => ?_)
  rcases hf with e | ⟨j, e, hj⟩
  · exact .inl (by simp only [tRow] at hi ⊢; rw [← e]; exact hi)
  · simp only [tRow, e, Option.toList_some, List.mem_singleton] at hi
    exact .inr (by omega)
theorem OwnT.r0 {H : Nat} {A w : World} {L : List Thing} {T : TypeId} {k n : Nat} {v : Value} {xs : List Value} (h : OwnT H A (tRow T k v n xs :: L) w) : w.ownsRow 0 T k v n xs := h.all.1
theorem OwnT.b0 {H : Nat} {A w : World} {L : List Thing} {b : Nat} {t : TypeId} {cs : Array Value} (h : OwnT H A (tBlk b t cs :: L) w) : Blk w b t cs := h.all.1
theorem OwnT.b1 {H : Nat} {A w : World} {X : Thing} {L : List Thing} {b : Nat} {t : TypeId} {cs : Array Value} (h : OwnT H A (X :: tBlk b t cs :: L) w) : Blk w b t cs := h.all.2.1
theorem OwnT.b2 {H : Nat} {A w : World} {X Y : Thing} {L : List Thing} {b : Nat} {t : TypeId} {cs : Array Value} (h : OwnT H A (X :: Y :: tBlk b t cs :: L) w) : Blk w b t cs := h.all.2.2.1
section
variable {P : Program}
/-- clear of a map. -/
theorem Z5s (w : World) (t k e ty : TypeId) (b : Nat) (es : Array MapEntry) (clock : Nat) (hu : P.underlying t = some (.map k e)) (hb : w.heap[b]? = some (.map es clock)) :
    (Builtin.clear_ #[t] ty #[.map (some b)]).run P w = .ok (.tuple #[]) (setBlock w b (.map #[] clock)) := by
  simp [Builtin.clear_, run_underlying hu, MapKept.run_getObj_map hb, MapKept.run_setObj_map _ hb, Result.andThen, setBlock]
/-- append to a row of one's own: which block it lies in then. -/
theorem Z24 (w : World) (t ty e : TypeId) (i : TypeInfo) (z : Value) (size bytes : Nat) (ht : P.underlying t = some (.slice e)) (hi : P.info? e = some i) (hz : i.zero = some z)
    (hsize : i.size = size) (hby : i.bytes = bytes) (hzs : z.cells.size = size) (hsz : 0 < size) (v : Value) (n : Nat) (xs : List Value) (hown : w.ownsRow 0 e size v n xs)
    (a : Addr) (m c : Nat) (news : List Value) (hl : news.length = m * size) (hnews : ∀ j u, news[j]? = some u → w.cell? (a.add j) = some u) (h1 : ∀ u ∈ news, u.oneCell' = true)
    (h63 : n + m ≤ maxLen) (hbytes : (n + m) * bytes ≤ 140737488355328) :
    ∃ v' w', (Builtin.append_ #[t, t] ty #[v, .slice (some a) m c]).run P w = .ok v' w' ∧ w'.ownsRow 0 e size v' (n + m) (xs ++ news) ∧ w.grownBy w' v.ownBlock ∧
      (v'.ownBlock = v.ownBlock ∨ ∃ k, v'.ownBlock = some k ∧ w.heap.size ≤ k) := by
  obtain ⟨v', w', hrun, h2, h3, h4⟩ := run_append_own (P := P) w 0 t ty e i z size bytes ht hi hz hsize hby hzs hsz v n xs hown a m c news hl hnews h1 h63 hbytes (Nat.zero_le _)
  refine ⟨v', w', hrun, h2, h3, ?_⟩
  subst hsize hby
  rcases hown.2 with ⟨rfl, rfl⟩ | ⟨g, cap, cur, rfl, hbg, hg, hnc, hcm, hcs, htake⟩
  · by_cases hm : m = 0
    · obtain rfl := (h4.2 ⟨rfl, hm⟩)
      exact .inl rfl
    · have hr := run_append_nil (P := P) w t ty e i z ht hi hz a m c news hl hnews (by omega) (by have := h63; unfold maxLen at this; omega) (by have hb := hbytes; simp only [Nat.zero_add] at hb; omega)
      rw [hr] at hrun
      injection hrun with e1 e2
      subst e1
      exact .inr ⟨w.heap.size, rfl, Nat.le_refl _⟩
  · by_cases hroom : n + m ≤ cap
    · have hfit : n * i.size + news.length ≤ cur.size := by rw [hl, hcs, ← Nat.add_mul]; exact Nat.mul_le_mul_right _ hroom
      have hr := run_append_room (P := P) w t ty e i ht hi g n cap cur hg a m c news hl hnews h1 hroom hfit
      rw [hr] at hrun
      injection hrun with e1 e2
      subst e1
      exact .inl rfl
    · have holds : ∀ j u, xs[j]? = some u → w.cell? ((⟨g, 0, none⟩ : Addr).add j) = some u := hown.cells (g := g) rfl
      have hr := run_append_grow (P := P) w t ty e i z ht hi hz ⟨g, 0, none⟩ n cap xs hown.1 holds a m c news hl hnews (by omega) (by have := h63; unfold maxLen at this; omega) (growslice_fits (by omega) hbytes)
      rw [hr] at hrun
      injection hrun with e1 e2
      subst e1
      exact .inr ⟨w.heap.size, rfl, Nat.le_refl _⟩
theorem Z5m {w : World} {o : Oper} {a : Act} {K : Act → World → Prop} {Q : Exit → Act → World → Prop} (d s : Operand) (t t' : TypeId)
    (ho : o.op = .call { callee := .builtin .append, args := #[d, s], argTypes := #[t, t'] }) (v u : Value) (hd : a.eval d = v) (hs : a.eval s = u) {v' : Value} {w' : World}
    (hr : (Builtin.append_ #[t, t'] o.type #[v, u]).run P w = .ok v' w') (h : K (a.put o.dst v') w') : o.wp P a w K Q := by
  unfold Oper.wp execOp
  simp only [ho, resolve, invoke, builtin, Sem.run_bind, Sem.run_pure, Result.andThen_ok, List.map_toArray, List.map_cons, List.map_nil, hd, hs, hr]
  exact h
theorem Z3f {w : World} {ops : Array Oper} {rest : List Oper} {o : Oper} {a : Act} {Q : Exit → Act → World → Prop} (hgd : o.guard = none) (d s : Operand) (t t' : TypeId)
    (ho : o.op = .call { callee := .builtin .append, args := #[d, s], argTypes := #[t, t'] }) (v u : Value) (hd : a.eval d = v) (hs : a.eval s = u) {v' : Value} {w' : World}
    (hr : (Builtin.append_ #[t, t'] o.type #[v, u]).run P w = .ok v' w') (h : wpList P ops Q rest (a.put o.dst v') w') : wpList P ops Q (o :: rest) a w :=
  wpList_plain hgd fun _ hK => Z5m d s t t' ho v u hd hs hr (hK _ _ h)
end
end Go.Proofs.YtakkhglbdljfiaaGreatDoor

/- Maps with int keys and whatever elements: what they say of each int. -/
namespace Go.Proofs.YtakkhglbdljfiaaGreatDoor
set_option linter.unusedVariables false
set_option linter.unusedSimpArgs false
open Go.RowKit Go.Maps

/-- An element reads as itself. -/
def heldE (v : Value) : Option (DataW Value × List MemPlace) := some (.held v, [])
theorem Z1f : Keyed Tryz.prog 3 := int_keyed Tryz.underlying3
abbrev wfV (i : Int) : Prop := (Lit.int .i64 i).wf = true
theorem Z3r {a : Int} (h0 : -9223372036854775808 ≤ a) (h1 : a ≤ 9223372036854775807) : wfV a := WalkArith.wf_i64 (by omega)
theorem Z37 {i : Int} (h : wfV i) : keyOf Tryz.prog 3 (.int .i64 i) = some (.int .i64 i) := keyOf_int_mk Tryz.underlying3 h
theorem keyV (i : Int) : WideAt.IsKeyLit (.int .i64 i) := trivial
theorem Z3l {i c : Int} (h : i ≠ c) : (Lit.int .i64 i) ≠ (Lit.int .i64 c) := fun e => h (by injection e)
def orV (o : Option Value) (z : DataW Value) : DataW Value := match o with | some v => .held v | none => z
def SaysV (D : DataW Value) (m : Int → Option Value) : Prop := ∀ i, wfV i → (∀ z, D.atKey (.int .i64 i) z = orV (m i) z) ∧ Maps.has D (.int .i64 i) = (m i).isSome
/-- Block b is a map of at most n entries that says m. -/
def VM (w : World) (b n : Nat) (m : Int → Option Value) : Prop := ∃ D : DataW Value, w.ownsMap Tryz.prog 3 heldE b n D ∧ SaysV D m
def putV (m : Int → Option Value) (c : Int) (v : Value) : Int → Option Value := fun i => if i = c then some v else m i
def delV (m : Int → Option Value) (c : Int) : Int → Option Value := fun i => if i = c then none else m i
section
variable {w w' : World} {b n : Nat} {m : Int → Option Value}
theorem VM.made (w : World) : VM (w.alloc (.map #[] 0)) w.heap.size 0 (fun _ => none) :=
  ⟨.map [], World.ownsMap_made _ _ _ _, fun _ _ => ⟨fun _ => rfl, rfl⟩⟩
theorem VM.lt (h : VM w b n m) : b < w.heap.size := by
  obtain ⟨D, h1, h2⟩ := h
  exact h1.lt
theorem VM.same (h : VM w b n m) (hb : w'.heap[b]? = w.heap[b]?) : VM w' b n m := by
  obtain ⟨D, ⟨es, clock, h1, h2⟩, h3⟩ := h
  exact ⟨D, ⟨es, clock, hb.trans h1, h2⟩, h3⟩
theorem VM.ext (h : VM w b n m) (k : Ext w w') : VM w' b n m := h.same (k.block b h.lt)
theorem VM.chg {F : List Nat} (h : VM w b n m) (k : Chg F w w') (hb : b ∉ F) : VM w' b n m := h.same (k.block b h.lt hb)
theorem VM.mono (h : VM w b n m) {k : Nat} (hk : n ≤ k) : VM w b k m := by
  obtain ⟨D, h1, h2⟩ := h
  exact ⟨D, h1.mono hk, h2⟩
theorem VM.congr {m' : Int → Option Value} (h : VM w b n m) (hm : ∀ i, wfV i → m i = m' i) : VM w b n m' := by
  obtain ⟨D, h1, h2⟩ := h
  exact ⟨D, h1, fun i hi => by rw [← hm i hi]; exact h2 i hi⟩
theorem SaysV.put {D : DataW Value} (h : SaysV D m) (hm : IsMap D) (c : Int) (v : Value) : SaysV (D.put (.int .i64 c) (.held v)) (putV m c v) := by
  intro i hi
  unfold putV
  by_cases e : i = c
  · subst e
    rw [if_pos rfl, has_put_same hm (keyV i)]
    exact ⟨fun z => atKey_put_same hm (keyV i) _ _, rfl⟩
  · rw [if_neg e, has_put_other (Z3l e)]
    exact ⟨fun z => by rw [atKey_put_other (Z3l e)]; exact (h i hi).1 z, (h i hi).2⟩
theorem SaysV.del {D : DataW Value} (h : SaysV D m) (c : Int) : SaysV (D.del (.int .i64 c)) (delV m c) := by
  intro i hi
  unfold delV
  by_cases e : i = c
  · subst e
    rw [if_pos rfl, has_del_same]
    exact ⟨fun z => atKey_del_same _, rfl⟩
  · rw [if_neg e, has_del_other (Z3l e)]
    exact ⟨fun z => by rw [atKey_del_other (Z3l e)]; exact (h i hi).1 z, (h i hi).2⟩
variable {t e : TypeId} {z : Value}
theorem VM.look (h : VM w b n m) (ht : Tryz.prog.underlying t = some (.map 3 e)) (hz : (zeroValue e).run Tryz.prog w = .ok z w) {c : Int} (hc : wfV c) :
    (Instr.lookup t (.map (some b)) (.int .i64 c) false).run Tryz.prog w = .ok ((m c).getD z) w := by
  obtain ⟨D, h1, h2⟩ := h
  obtain ⟨v, ps, hrun, hv⟩ := h1.lookup Z1f ht hz (zd := .held z) (zp := []) rfl (Z37 hc)
  rw [(h2 c hc).1] at hv
  unfold heldE at hv
  rw [hrun]
  cases hm : m c with
  | none => rw [hm] at hv; simp [orV] at hv; rw [hv.1]; rfl
  | some x => rw [hm] at hv; simp [orV] at hv; rw [hv.1]; rfl
theorem VM.look_ok (h : VM w b n m) (ht : Tryz.prog.underlying t = some (.map 3 e)) (hz : (zeroValue e).run Tryz.prog w = .ok z w) {c : Int} (hc : wfV c) :
    (Instr.lookup t (.map (some b)) (.int .i64 c) true).run Tryz.prog w = .ok (.tuple #[(m c).getD z, .bool (m c).isSome]) w := by
  obtain ⟨D, h1, h2⟩ := h
  obtain ⟨v, ps, hrun, hv⟩ := h1.look_ok Z1f ht hz (zd := .held z) (zp := []) rfl (Z37 hc)
  rw [(h2 c hc).1] at hv
  unfold heldE at hv
  rw [hrun, (h2 c hc).2]
  cases hm : m c with
  | none => rw [hm] at hv; simp [orV] at hv; rw [hv.1]; rfl
  | some x => rw [hm] at hv; simp [orV] at hv; rw [hv.1]; rfl
theorem VM.store (h : VM w b n m) (ht : Tryz.prog.underlying t = some (.map 3 e)) (hn : n < maxLen) {c : Int} (hc : wfV c) (v : Value) :
    ∃ w', (Instr.mapUpdate t (.map (some b)) (.int .i64 c) v).run Tryz.prog w = .ok () w' ∧ VM w' b (n + 1) (putV m c v) ∧ Chg [b] w w' := by
  obtain ⟨D, h1, h2⟩ := h
  obtain ⟨w', hrun, h3, h4⟩ := h1.update Z1f ht hn (Z37 hc) (d := .held v) (ps := []) rfl
  exact ⟨w', hrun, ⟨_, h3, h2.put h1.isMap c v⟩, Chg.of_grown h4⟩
theorem VM.drop (h : VM w b n m) (ht : Tryz.prog.underlying t = some (.map 3 e)) {c : Int} (hc : wfV c) (ty : TypeId) :
    ∃ w', (Builtin.delete_ #[t, 3] ty #[.map (some b), .int .i64 c]).run Tryz.prog w = .ok (.tuple #[]) w' ∧ VM w' b n (delV m c) ∧ Chg [b] w w' := by
  obtain ⟨D, h1, h2⟩ := h
  obtain ⟨w', hrun, h3, h4⟩ := h1.drop Z1f ht (Z37 hc) ty
  exact ⟨w', hrun, ⟨_, h3, h2.del c⟩, Chg.of_grown h4.grown⟩
end
section
variable {ops : Array Oper} {rest : List Oper} {o : Oper} {a : Act} {Q : Exit → Act → World → Prop} {K : Act → World → Prop} {w : World} {b n : Nat} {m : Int → Option Value}
/-- 'm[c] = v'. -/
theorem Z77 (mo x v : Operand) (t e : TypeId) (hop : o.op = Op.mapUpdate t mo x v) (ht : Tryz.prog.underlying t = some (.map 3 e)) (hn : n < maxLen)
    (hm : a.eval mo = .map (some b)) (h : VM w b n m) {c : Int} (hx : a.eval x = .int .i64 c) (hc : wfV c) {u : Value} (hv : a.eval v = u)
    (hK : ∀ w', VM w' b (n + 1) (putV m c u) → Chg [b] w w' → K (a.put o.dst undef) w') : o.wp Tryz.prog a w K Q := by
  obtain ⟨w', hrun, h1, h2⟩ := h.store ht hn hc u
  unfold Oper.wp
  simp [execOp, hop, hm, hx, hv, hrun, Result.andThen]
  exact hK w' h1 h2
end
/-- 'for k, v := range m' under way: 'left' are to come. -/
def VR (w : World) (b r n : Nat) (m : Int → Option Value) (left : Int → Bool) (cnt : Nat) : Prop :=
  ∃ (D : DataW Value) (l : Lit → Bool), w.ranges Tryz.prog 3 heldE b r n D l cnt ∧ SaysV D m ∧ ∀ i, wfV i → l (.int .i64 i) = left i
section
variable {w w' : World} {b r n cnt : Nat} {m : Int → Option Value} {left : Int → Bool}
theorem VR.vm (h : VR w b r n m left cnt) : VM w b n m := by
  obtain ⟨D, l, h1, h2, h3⟩ := h
  exact ⟨D, h1.owns, h2⟩
theorem VR.left_eq (h : VR w b r n m left cnt) : w.rangeLeft b r = cnt := by
  obtain ⟨D, l, h1, h2, h3⟩ := h
  exact h1.left_eq
theorem VR.ne (h : VR w b r n m left cnt) : r ≠ b := by
  obtain ⟨D, l, h1, h2, h3⟩ := h
  exact h1.ne
theorem VR.lt (h : VR w b r n m left cnt) : r < w.heap.size := by
  obtain ⟨D, l, h1, h2, h3⟩ := h
  exact h1.lt
theorem VR.same (h : VR w b r n m left cnt) (hb : w'.heap[b]? = w.heap[b]?) (hr : w'.heap[r]? = w.heap[r]?) : VR w' b r n m left cnt := by
  obtain ⟨D, l, ⟨es, clock, since, seen, c0, h1, h2, h3, h4, h5, h6⟩, h7⟩ := h
  exact ⟨D, l, ⟨es, clock, since, seen, c0, hb.trans h1, h2, h3, h4, hr.trans h5, h6⟩, h7⟩
theorem VR.chg {F : List Nat} (h : VR w b r n m left cnt) (k : Chg F w w') (hb : b ∉ F) (hr : r ∉ F) : VR w' b r n m left cnt := h.same (k.block b h.vm.lt hb) (k.block r h.lt hr)
theorem VR.ext (h : VR w b r n m left cnt) (k : Ext w w') : VR w' b r n m left cnt := h.same (k.block b h.vm.lt) (k.block r h.lt)
variable {ops : Array Oper} {rest : List Oper} {o : Oper} {a : Act} {Q : Exit → Act → World → Prop}
theorem Z2a (hg : o.guard = none) (mo : Operand) (t e : TypeId) (hop : o.op = Op.range t mo) (ht : Tryz.prog.underlying t = some (.map 3 e)) (hm : a.eval mo = .map (some b)) (h : VM w b n m)
    (hK : ∀ w' cnt, VR w' b w.heap.size n m (fun i => (m i).isSome) cnt → Ext w w' → w'.heap.size = w.heap.size + 1 → wpList Tryz.prog ops Q rest (a.put o.dst (.pointer (some ⟨w.heap.size, 0, none⟩))) w') :
    wpList Tryz.prog ops Q (o :: rest) a w := by
  obtain ⟨D, h1, h2⟩ := h
  refine wpList_range_own w hg mo t hop 3 e Z1f ht heldE b n D hm h1 (fun w' hr hgw hs => hK w' _ ⟨D, _, hr, h2, fun i hi => (h2 i hi).2⟩ ?_ hs)
  exact ⟨hgw.os, hgw.tape, hgw.output, hgw.size, fun i hi => hgw.block i hi (by simp)⟩
end
/-- A map as a thing. -/
def tMap (b n : Nat) (m : Int → Option Value) : Thing where
  foot := [b]
  holds := fun w => VM w b n m
  keep := fun w w' _ h hb => hb.same (h b (by simp))
  lt := fun w h i hi => by
    simp at hi
    subst hi
    exact h.lt
end Go.Proofs.YtakkhglbdljfiaaGreatDoor

/- Strings as lists of bytes, and what operations on them yield; rows, maps, writers at an operation. No function of the program in sight. -/
namespace Go.Proofs.YtakkhglbdljfiaaGreatDoor
set_option linter.unusedVariables false
set_option linter.unusedSimpArgs false
open Go.RowKit Go.Maps

/-- The string of these bytes. -/
def sB (l : List UInt8) : ByteArray := ⟨l.toArray⟩
theorem Z4c (l : List UInt8) : (sB l).data.toList = l := rfl
theorem Z1k (l : List UInt8) : (sB l).size = l.length := List.size_toArray
theorem sB_of (s : ByteArray) : sB s.data.toList = s := by cases s; simp [sB]
theorem Z6j (l : List UInt8) : (sB l).toList = l := by rw [ByteArray.toList_eq]; rfl
theorem sB_app (l m : List UInt8) : sB l ++ sB m = sB (l ++ m) := by
  have : (sB l ++ sB m).data.toList = l ++ m := by simp [sB]
  rw [← sB_of (sB l ++ sB m), this]
theorem sB_cut (l : List UInt8) (i j : Nat) : (sB l).extract i j = sB ((l.take j).drop i) := by
  have : ((sB l).extract i j).data.toList = (l.take j).drop i := by
    simp [sB, List.drop_take]
  rw [← sB_of ((sB l).extract i j), this]
section
variable {P : Program} {w w' : World} {o : Oper} {ρ : Operand → Value} {t u : TypeId} {x y : Operand} {l m : List UInt8}
theorem x_str {op : BinOp} {v : Value} (ho : o.op = .binOp op t x y u) (hx : ρ x = .string (sB l)) (hy : ρ y = .string (sB m)) (hg : (eqGuard op t x y (.string (sB l)) (.string (sB m))).run P w = .ok () w) (h : (binOp op t (.string (sB l)) (.string (sB m))).run P w = .ok v w) : (execOp ρ o).run P w = .ok (.value v) w := by
  unfold execOp
  simp only [ho, hx, hy]
  simp [hg, h]
theorem x_cat (ho : o.op = .binOp .add t x y u) (hx : ρ x = .string (sB l)) (hy : ρ y = .string (sB m)) (h : l.length + m.length ≤ 9223372036854775807) : (execOp ρ o).run P w = .ok (.value (.string (sB (l ++ m)))) w := by
  refine x_str ho hx hy (by simp [eqGuard]) ?_
  have h1 : ¬ ((((sB l).size + (sB m).size : Nat) : Int) > IntKind.i64.max) := by
    rw [Z1k, Z1k]
    have : IntKind.i64.max = 9223372036854775807 := by decide
    omega
  simp only [binOp, Op.stringOp]
  rw [if_neg h1, sB_app]
  rfl
theorem x_eqs (ho : o.op = .binOp .eql t x y u) (hx : ρ x = .string (sB l)) (hy : ρ y = .string (sB m)) : (execOp ρ o).run P w = .ok (.value (.bool (decide (l = m)))) w := by
  refine x_str ho hx hy (by simp [eqGuard]) ?_
  by_cases h : l = m <;> simp [binOp, Op.stringOp, Z6j, h]
theorem x_nes (ho : o.op = .binOp .neq t x y u) (hx : ρ x = .string (sB l)) (hy : ρ y = .string (sB m)) : (execOp ρ o).run P w = .ok (.value (.bool (decide (l ≠ m)))) w := by
  refine x_str ho hx hy (by simp [eqGuard]) ?_
  by_cases h : l = m <;> simp [binOp, Op.stringOp, Z6j, h]
theorem Z5k {h : Operand} {k : IntKind} {n : Int} (hu : P.underlying t = some .string) (ho : o.op = .slice t x none (some h) none) (hx : ρ x = .string (sB l)) (hh : ρ h = .int k n) (j : Nat) (hn : n = (j : Nat)) (hb : j ≤ l.length) : (execOp ρ o).run P w = .ok (.value (.string (sB (l.take j)))) w := by
  subst hn
  have hb' : ((j : Int) ≤ (sB l).size) := by rw [Z1k]; omega
  unfold execOp
  simp only [ho, Option.map_none, Option.map_some, hx, hh]
  simp [Instr.sliceAt, Instr.slice, Instr.sliceBounds, Instr.sliceBound, run_underlying hu, asIntOf, hb', sB_cut]
  intro h; rw [Z1k] at h; omega
theorem Z5j {h : Operand} {k : IntKind} {n : Int} (hu : P.underlying t = some .string) (ho : o.op = .slice t x (some h) none none) (hx : ρ x = .string (sB l)) (hh : ρ h = .int k n) (j : Nat) (hn : n = (j : Nat)) (hb : j ≤ l.length) : (execOp ρ o).run P w = .ok (.value (.string (sB (l.drop j)))) w := by
  subst hn
  have hb' : ((j : Int) ≤ (sB l).size) := by rw [Z1k]; omega
  unfold execOp
  simp only [ho, Option.map_none, Option.map_some, hx, hh]
  simp [Instr.sliceAt, Instr.slice, Instr.sliceBounds, Instr.sliceBound, run_underlying hu, asIntOf, hb', sB_cut, Z1k]
  intro h; omega
theorem Z46 (hu : P.underlying t = some .string) (ho : o.op = .call { callee := .builtin .len, args := #[x], argTypes := #[t] }) (hx : ρ x = .string (sB l)) : (execOp ρ o).run P w = .ok (.value (.int .i64 (l.length : Int))) w := by
  have := x_len_s (P := P) (w := w) hu ho hx
  rwa [Z1k] at this
end
section
variable {P : Program} {w : World} {o : Oper} {ρ : Operand → Value} {t u : TypeId} {x y : Operand}
theorem x_quoN {m j : Nat} {k : Int} (ho : o.op = .binOp .quo t x y u) (hx : ρ x = .int .i64 (m : Nat)) (hy : ρ y = .int .i64 k) (hk : k = (j : Nat)) (hj : 0 < j) (hm : m ≤ 9223372036854775807) : (execOp ρ o).run P w = .ok (.value (.int .i64 ((m / j : Nat) : Int))) w := by
  subst hk
  refine Z3b ho hx hy ?_
  have h0 : ¬ ((j : Int) = 0) := by omega
  have h1 : (m / j : Nat) ≤ m := Nat.div_le_self _ _
  have h2 : (m : Int).tdiv (j : Int) = ((m / j : Nat) : Int) := rfl
  have h3 : IntKind.i64.wrap ((m : Int).tdiv (j : Int)) = ((m / j : Nat) : Int) := by
    rw [h2]
    have h4 : (0 : Int) ≤ ((m / j : Nat) : Int) := Int.natCast_nonneg _
    have h5 : ((m / j : Nat) : Int) ≤ (m : Int) := Int.ofNat_le.2 h1
    generalize ((m / j : Nat) : Int) = z at h4 h5 ⊢
    exact IntWalk.i64_in _ (by omega)
  simp only [binOp, Op.intDiv, if_neg h0, h3]
  rfl
theorem x_remN {m j : Nat} {k : Int} (ho : o.op = .binOp .rem t x y u) (hx : ρ x = .int .i64 (m : Nat)) (hy : ρ y = .int .i64 k) (hk : k = (j : Nat)) (hj : 0 < j) : (execOp ρ o).run P w = .ok (.value (.int .i64 ((m % j : Nat) : Int))) w := by
  subst hk
  refine Z3b ho hx hy ?_
  have h0 : ¬ ((j : Int) = 0) := by omega
  have h2 : (m : Int).tmod (j : Int) = ((m % j : Nat) : Int) := rfl
  simp only [binOp, Op.intDiv, if_neg h0, h2]
  rfl
end
section
variable {P : Program} {w : World} {o : Oper} {ρ : Operand → Value} {t : TypeId} {x y : Operand} {a b : Int}
theorem x_max (ho : o.op = .call { callee := .builtin .max, args := #[x, y], argTypes := #[t, t] }) (hx : ρ x = .int .i64 a) (hy : ρ y = .int .i64 b) : (execOp ρ o).run P w = .ok (.value (.int .i64 (max a b))) w := by
  unfold execOp
  simp only [ho, resolve, invoke, builtin, Sem.run_bind, Sem.run_pure, Result.andThen_ok, List.map_toArray, List.map_cons, List.map_nil, hx, hy]
  have e : max a b = if b > a then b else a := by split <;> omega
  rw [e]
  simp [Builtin.max_, Builtin.max2]
theorem x_min (ho : o.op = .call { callee := .builtin .min, args := #[x, y], argTypes := #[t, t] }) (hx : ρ x = .int .i64 a) (hy : ρ y = .int .i64 b) : (execOp ρ o).run P w = .ok (.value (.int .i64 (min a b))) w := by
  unfold execOp
  simp only [ho, resolve, invoke, builtin, Sem.run_bind, Sem.run_pure, Result.andThen_ok, List.map_toArray, List.map_cons, List.map_nil, hx, hy]
  have e : min a b = if b < a then b else a := by split <;> omega
  rw [e]
  simp [Builtin.min_, Builtin.min2]
end
/-! Maps. -/
section
variable {w : World} {b n : Nat} {m : Int → Option Value} {o : Oper} {ρ : Operand → Value} {t e : TypeId} {mo x : Operand} {z : Value} {c : Int}
theorem x_look (h : VM w b n m) (ho : o.op = .lookup t mo x false) (ht : Tryz.prog.underlying t = some (.map 3 e)) (hz : (zeroValue e).run Tryz.prog w = .ok z w) (hm : ρ mo = .map (some b)) (hx : ρ x = .int .i64 c) (hc : wfV c) : (execOp ρ o).run Tryz.prog w = .ok (.value ((m c).getD z)) w := by
  simp [execOp, ho, hm, hx, h.look ht hz hc]
theorem Z2w (h : VM w b n m) (ho : o.op = .lookup t mo x true) (ht : Tryz.prog.underlying t = some (.map 3 e)) (hz : (zeroValue e).run Tryz.prog w = .ok z w) (hm : ρ mo = .map (some b)) (hx : ρ x = .int .i64 c) (hc : wfV c) : (execOp ρ o).run Tryz.prog w = .ok (.value (.tuple #[(m c).getD z, .bool (m c).isSome])) w := by
  simp [execOp, ho, hm, hx, h.look_ok ht hz hc]
end
/-! A value that is put: on with a new frame. -/
section
variable {P : Program} {Q : Exit → Act → World → Prop} {a a0 : Act} {w' : World} {n : Nat} {D : List Tmp} {ops : Array Oper} {rest : List Oper} {v : Value}
theorem put_F (d : Tmp) (hE : Env a0 D a) (k : Fr n a0) (hn : Nat.blt d n = true) (hD : D.contains d = true)
    (hk : ∀ a', Env a0 D a' → a'.eval (.tmp d) = v → (∀ t, Nat.beq t d = false → a'.eval (.tmp t) = a.eval (.tmp t)) → wpList P ops Q rest a' w') : wpList P ops Q rest (a.put (some d) v) w' :=
  hk _ (hE.put hD v) (Z0h (by rw [hE.size, k.size]; exact Nat.le_of_ble_eq_true hn)) (fun t ht => Z0m ht v)
end
section
variable {P : Program} {Q : Exit → Act → World → Prop} {a : Act} {w w' : World} {ops : Array Oper} {rest : List Oper} {o : Oper} {v : Value}
theorem Z42 (hd : o.dst = none) (hg : o.guard = none) (h : (execOp a.eval o).run P w = .ok (.value v) w') (hk : wpList P ops Q rest a w') : wpList P ops Q (o :: rest) a w := by
  refine wpList_plain hg fun K hK => Z10 h (hK _ _ ?_)
  rw [hd]
  exact hk
end
section
variable {P : Program} {Q : Exit → Act → World → Prop} {a a0 : Act} {w : World} {n : Nat} {D : List Tmp} {ops : Array Oper} {rest : List Oper} {o : Oper}
/-- A new map. -/
theorem sq_map {H : Nat} {A : World} {L : List Thing} (O : OwnT H A L w) (d : Tmp) (hE : Env a0 D a) (k : Fr n a0) (hd : o.dst = some d) (hn : Nat.blt d n = true) (hD : D.contains d = true) (hg : o.guard = none)
    (h : (execOp a.eval o).run P w = .ok (.value (.map (some w.heap.size))) (w.alloc (.map #[] 0)))
    (hk : ∀ g a' w', OwnT H A (tMap g 0 (fun _ => none) :: L) w' → Env a0 D a' → a'.eval (.tmp d) = .map (some g) → (∀ t, Nat.beq t d = false → a'.eval (.tmp t) = a.eval (.tmp t)) → wpList P ops Q rest a' w') : wpList P ops Q (o :: rest) a w :=
  Z1y d hE k hd hn hD hg h (fun a' h1 h2 h3 => hk _ a' _ (O.cons (Ext.alloc w _) (tMap w.heap.size 0 (fun _ => none)) (VM.made w) (fun i hi => by simp [tMap] at hi; omega)) h1 h2 h3)
end
theorem last_skip {P : Program} {Q : Exit → Act → World → Prop} {a : Act} {w w' : World} {o : Oper} (hd : o.dst = none) (h : (execOp a.eval o).run P w = .ok .skip w') (hk : Q .normal a w') : o.wp P a w (fun a w => Q .normal a w) Q := by
  refine Z1e h ?_
  rw [hd]
  exact hk
/-! Rows of single cells. -/
section
variable {H : Nat} {A w w' : World} {L : List Thing} {T : TypeId} {g n cap : Nat} {xs : List Value}
theorem Z4e (h : w.ownsRow 0 T 1 (.slice (some ⟨g, 0, none⟩) n cap) n xs) {i : Nat} {v : Value} (hi : xs[i]? = some v) : w.cell? ⟨g, i, none⟩ = some v ∧ w.frozen? ⟨g, i, none⟩ = false := by
  have hil : i < xs.length := (List.getElem?_eq_some_iff.1 hi).1
  rcases h.2 with ⟨h1, _⟩ | ⟨g', cap', cur, h1, _, hb, h2, h3, h4, h5⟩
  · cases h1
  · injection h1 with h1 _ _
    injection h1 with h1
    injection h1 with h1 _ _
    subst h1
    refine ⟨?_, Blk.frozen (show Blk w g T cur from hb) i⟩
    rw [Blk.cell (show Blk w g T cur from hb) i, ← Array.getElem?_toList]
    rw [← h5] at hi
    rwa [List.getElem?_take_of_lt (by have := h.1; omega)] at hi
theorem row1_set (h : w.ownsRow 0 T 1 (.slice (some ⟨g, 0, none⟩) n cap) n xs) {i : Nat} (hi : i < n) (u : Value) : (w.setCell ⟨g, i, none⟩ u).ownsRow 0 T 1 (.slice (some ⟨g, 0, none⟩) n cap) n (xs.set i u) := by
  rcases h.2 with ⟨h1, _⟩ | ⟨g', cap', cur, h1, _, hb, h2, h3, h4, h5⟩
  · cases h1
  · injection h1 with h1 _ hc
    injection h1 with h1
    injection h1 with h1 _ _
    subst h1 hc
    refine row_of (Blk.set_ (show Blk w g T cur from hb) i u) h2 h3 (by simpa using h4) ?_
    rw [Array.toList_setIfInBounds, List.take_set, h5]
theorem OwnT.setRow1 (O : OwnT H A (tRow T 1 (.slice (some ⟨g, 0, none⟩) n cap) n xs :: L) w) {i : Nat} (hi : i < n) (u : Value) : OwnT H A (tRow T 1 (.slice (some ⟨g, 0, none⟩) n cap) n (xs.set i u) :: L) (w.setCell ⟨g, i, none⟩ u) :=
  O.call (F := [g]) (Chg.of_grown (Z1c (World.grownBy.refl w _) (.inl rfl) u)) (fun i hi => by simpa [tRow, Value.ownBlock] using hi) (tRow T 1 _ n (xs.set i u)) (row1_set O.r0 hi u) (fun i hi => .inl hi)
theorem Z4d {v : Value} (h : w.ownsRow 0 T 1 v n xs) (hn : 0 < n) : ∃ g cap, v = .slice (some ⟨g, 0, none⟩) n cap ∧ g < w.heap.size := by
  obtain ⟨g, cap, cur, h1, h2, _⟩ := Z2z h hn
  exact ⟨g, cap, h1, h2.lt⟩
end
end Go.Proofs.YtakkhglbdljfiaaGreatDoor
