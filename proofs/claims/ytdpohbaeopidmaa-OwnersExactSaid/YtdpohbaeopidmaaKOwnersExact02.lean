/- Rows of elements of k cells: copy, clear, append at a place; rows as things. No function of the program in sight. -/
import Derived.Test.YtdpohbaeopidmaaKOwnersExact01
import Derived.Laws.CopyOwn
import Derived.Laws.OwnMore
import Derived.Lib.AppendZerosOnto
namespace Go.Proofs.Ytdpohbaeopidmaa
set_option linter.unusedVariables false
set_option linter.unusedSimpArgs false
open Go.RowKit Go.Maps Go.ChangeMaps Go.MapKept Go.WideShapes

theorem Blk.setRow {w : World} {g : Nat} {t : TypeId} {cs : Array Value} (h : Blk w g t cs) (cs' : Array Value) : Blk (w.setRow g cs') g t cs' := setRow_heap w g cs cs' t (0, 0) h
theorem chg_setRow (w : World) (g : Nat) (cs : Array Value) : Chg [g] w (w.setRow g cs) := ⟨rfl, rfl, rfl, by simp, fun i _ hn => setRow_other w g i cs (by simpa using hn)⟩
/-- A row of one's own as a thing. -/
def tRow (T : TypeId) (k : Nat) (v : Value) (n : Nat) (xs : List Value) : Thing where
  foot := v.ownBlock.toList
  holds := fun w => w.ownsRow 0 T k v n xs
  keep := fun w w' _ h hb => by
    refine ⟨hb.1, ?_⟩
    rcases hb.2 with hn | ⟨g, cap, cur, rfl, hg, hgb, rest⟩
    · exact .inl hn
    · exact .inr ⟨g, cap, cur, rfl, hg, (h g (by simp [Value.ownBlock])).trans hgb, rest⟩
  lt := fun w h i hi => (h.lt i (by simpa using hi)).2
/-- What a row that is not nil is. -/
theorem row_some {w : World} {T : TypeId} {k n : Nat} {v : Value} {xs : List Value} (h : w.ownsRow 0 T k v n xs) (hn : 0 < n) : ∃ g cap cur, v = .slice (some ⟨g, 0, none⟩) n cap ∧ Blk w g T cur ∧ n ≤ cap ∧ cap ≤ maxLen ∧ cur.size = cap * k ∧ cur.toList.take (n * k) = xs := by
  rcases h.2 with ⟨_, rfl⟩ | ⟨g, cap, cur, rfl, _, h1, h2, h3, h4, h5⟩
  · omega
  · exact ⟨g, cap, cur, rfl, h1, h2, h3, h4, h5⟩
theorem row_of {w : World} {T : TypeId} {k n g cap : Nat} {cur : Array Value} {xs : List Value} (h1 : Blk w g T cur) (h2 : n ≤ cap) (h3 : cap ≤ maxLen) (h4 : cur.size = cap * k) (h5 : cur.toList.take (n * k) = xs) :
    w.ownsRow 0 T k (.slice (some ⟨g, 0, none⟩) n cap) n xs := by
  have hc : n * k ≤ cap * k := Nat.mul_le_mul_right k h2
  refine ⟨?_, .inr ⟨g, cap, cur, rfl, Nat.zero_le _, h1, h2, h3, h4, h5⟩⟩
  rw [← h5, List.length_take, Array.length_toList, h4]
  omega
theorem OwnT.row {H : Nat} {A w w' : World} {L : List Thing} {T : TypeId} {k n n' : Nat} {v v' : Value} {xs xs' : List Value} (h : OwnT H A (tRow T k v n xs :: L) w) (hr : w'.ownsRow 0 T k v' n' xs') (hg : w.grownBy w' v.ownBlock)
    (hf : v'.ownBlock = v.ownBlock ∨ ∃ j, v'.ownBlock = some j ∧ w.heap.size ≤ j) : OwnT H A (tRow T k v' n' xs' :: L) w' := by
  refine h.call (F := v.ownBlock.toList) ⟨hg.os, hg.tape, hg.output, hg.size, fun i hi hn => hg.block i hi (fun e => hn (by rw [← e]; simp))⟩ (fun i hi => hi) (tRow T k v' n' xs') hr (fun i hi => ?_)
  rcases hf with e | ⟨j, e, hj⟩
  · exact .inl (by simp only [tRow] at hi ⊢; rw [← e]; exact hi)
  · simp only [tRow, e, Option.toList_some, List.mem_singleton] at hi
    exact .inr (by omega)
theorem OwnT.r0 {H : Nat} {A w : World} {L : List Thing} {T : TypeId} {k n : Nat} {v : Value} {xs : List Value} (h : OwnT H A (tRow T k v n xs :: L) w) : w.ownsRow 0 T k v n xs := h.all.1
theorem OwnT.b0 {H : Nat} {A w : World} {L : List Thing} {b : Nat} {t : TypeId} {cs : Array Value} (h : OwnT H A (tBlk b t cs :: L) w) : Blk w b t cs := h.all.1
theorem OwnT.b1 {H : Nat} {A w : World} {X : Thing} {L : List Thing} {b : Nat} {t : TypeId} {cs : Array Value} (h : OwnT H A (X :: tBlk b t cs :: L) w) : Blk w b t cs := h.all.2.1
theorem OwnT.b2 {H : Nat} {A w : World} {X Y : Thing} {L : List Thing} {b : Nat} {t : TypeId} {cs : Array Value} (h : OwnT H A (X :: Y :: tBlk b t cs :: L) w) : Blk w b t cs := h.all.2.2.1
section
variable {P : Program}
/-- copy of elements of k cells. -/
theorem run_copy_k (w : World) (dT sT ty elem : TypeId) (i : TypeInfo) (k : Nat) (hu : P.underlying dT = some (.slice elem)) (hi : P.info? elem = some i) (hk : i.size = k) (g o dLen dCap : Nat) (a : Addr) (sLen sCap : Nat) (cur : Array Value) (t : TypeId) (cs : List Value)
    (hg : Blk w g t cur) (hn : cs.length = Nat.min sLen dLen * k) (hsrc : ∀ j v, cs[j]? = some v → w.cell? (a.add j) = some v) (hfit : o + cs.length ≤ cur.size) (h1 : ∀ v ∈ cs, v.oneCell' = true) :
    (Builtin.copy_ #[dT, sT] ty #[.slice (some ⟨g, o, none⟩) dLen dCap, .slice (some a) sLen sCap]).run P w = .ok (goInt (Nat.min sLen dLen)) (w.setRow g (splice cur.toList o cs).toArray) := by
  have hl := run_loadCells_list (P := P) w a cs hsrc
  have hst := run_storeCells_at P g o t cs 0 cur w hg (by simpa using hfit) h1
  subst hk
  simp [Builtin.copy_, run_underlying hu, Builtin.lenOf, Builtin.firstCells, sizeOf, typeInfo, hi, ← hn, hl, hst, splice]
theorem run_copy_zero (w : World) (dT sT ty elem : TypeId) (i : TypeInfo) (hu : P.underlying dT = some (.slice elem)) (hi : P.info? elem = some i) (A B : Option Addr) (dLen dCap sLen sCap : Nat) (hn : Nat.min sLen dLen = 0) :
    (Builtin.copy_ #[dT, sT] ty #[.slice A dLen dCap, .slice B sLen sCap]).run P w = .ok (goInt 0) w := by
  cases A <;> cases B <;> simp [Builtin.copy_, run_underlying hu, Builtin.lenOf, Builtin.firstCells, sizeOf, typeInfo, hi, hn, storeCells, loadCells, loadCellsFrom]
/-- clear of elements of k cells. -/
theorem run_clear_k (w : World) (t elem ty : TypeId) (i : TypeInfo) (z : Value) (hu : P.underlying t = some (.slice elem)) (hi : P.info? elem = some i) (hz : i.zero = some z) (g o n c : Nat) (cur : Array Value) (T : TypeId)
    (hg : Blk w g T cur) (hn : 0 < n) (hfit : o + n * z.cells.size ≤ cur.size) (h1 : ∀ v ∈ (Builtin.zeroCells z.cells n).toList, v.oneCell' = true) :
    (Builtin.clear_ #[t] ty #[.slice (some ⟨g, o, none⟩) n c]).run P w = .ok (.tuple #[]) (w.setRow g (splice cur.toList o (Builtin.zeroCells z.cells n).toList).toArray) := by
  have hl : (Builtin.zeroCells z.cells n).toList.length = n * z.cells.size := by simp [Builtin.zeroCells]
  have hst := run_storeCells_at P g o T (Builtin.zeroCells z.cells n).toList 0 cur w hg (by rw [hl]; simpa using hfit) h1
  obtain ⟨m, rfl⟩ : ∃ m, n = m + 1 := ⟨n - 1, by omega⟩
  simp [Builtin.clear_, run_underlying hu, zeroValue, typeInfo, hi, hz, hst, splice]
theorem run_clear_none (w : World) (t elem ty : TypeId) (hu : P.underlying t = some (.slice elem)) (A : Option Addr) (c : Nat) :
    (Builtin.clear_ #[t] ty #[.slice A 0 c]).run P w = .ok (.tuple #[]) w := by
  cases A <;> simp [Builtin.clear_, run_underlying hu]
/-- clear of a map. -/
theorem run_clear_map (w : World) (t k e ty : TypeId) (b : Nat) (es : Array MapEntry) (clock : Nat) (hu : P.underlying t = some (.map k e)) (hb : w.heap[b]? = some (.map es clock)) :
    (Builtin.clear_ #[t] ty #[.map (some b)]).run P w = .ok (.tuple #[]) (setBlock w b (.map #[] clock)) := by
  simp [Builtin.clear_, run_underlying hu, MapKept.run_getObj_map hb, MapKept.run_setObj_map _ hb, Result.andThen, setBlock]
/-- append to a row of one's own: which block it lies in then. -/
theorem run_append_fresh (w : World) (t ty e : TypeId) (i : TypeInfo) (z : Value) (size bytes : Nat) (ht : P.underlying t = some (.slice e)) (hi : P.info? e = some i) (hz : i.zero = some z)
    (hsize : i.size = size) (hby : i.bytes = bytes) (hzs : z.cells.size = size) (hsz : 0 < size) (v : Value) (n : Nat) (xs : List Value) (hown : w.ownsRow 0 e size v n xs)
    (a : Addr) (m c : Nat) (news : List Value) (hl : news.length = m * size) (hnews : ∀ j u, news[j]? = some u → w.cell? (a.add j) = some u) (h1 : ∀ u ∈ news, u.oneCell' = true)
    (h63 : n + m ≤ maxLen) (hbytes : (n + m) * bytes ≤ 140737488355328) :
    ∃ v' w', (Builtin.append_ #[t, t] ty #[v, .slice (some a) m c]).run P w = .ok v' w' ∧ w'.ownsRow 0 e size v' (n + m) (xs ++ news) ∧ w.grownBy w' v.ownBlock ∧
      (v'.ownBlock = v.ownBlock ∨ ∃ k, v'.ownBlock = some k ∧ w.heap.size ≤ k) := by
  obtain ⟨v', w', hrun, h2, h3, h4⟩ := run_append_own (P := P) w 0 t ty e i z size bytes ht hi hz hsize hby hzs hsz v n xs hown a m c news hl hnews h1 h63 hbytes (Nat.zero_le _)
  refine ⟨v', w', hrun, h2, h3, ?_⟩
  subst hsize hby
  rcases hown.2 with ⟨rfl, rfl⟩ | ⟨g, cap, cur, rfl, hbg, hg, hnc, hcm, hcs, htake⟩
  · by_cases hm : m = 0
    · obtain rfl := (h4.2 ⟨rfl, hm⟩)
      exact .inl rfl
    · have hr := run_append_nil (P := P) w t ty e i z ht hi hz a m c news hl hnews (by omega) (by have := h63; unfold maxLen at this; omega) (by have hb := hbytes; simp only [Nat.zero_add] at hb; omega)
      rw [hr] at hrun
      injection hrun with e1 e2
      subst e1
      exact .inr ⟨w.heap.size, rfl, Nat.le_refl _⟩
  · by_cases hroom : n + m ≤ cap
    · have hfit : n * i.size + news.length ≤ cur.size := by rw [hl, hcs, ← Nat.add_mul]; exact Nat.mul_le_mul_right _ hroom
      have hr := run_append_room (P := P) w t ty e i ht hi g n cap cur hg a m c news hl hnews h1 hroom hfit
      rw [hr] at hrun
      injection hrun with e1 e2
      subst e1
      exact .inl rfl
    · have holds : ∀ j u, xs[j]? = some u → w.cell? ((⟨g, 0, none⟩ : Addr).add j) = some u := hown.cells (g := g) rfl
      have hr := run_append_grow (P := P) w t ty e i z ht hi hz ⟨g, 0, none⟩ n cap xs hown.1 holds a m c news hl hnews (by omega) (by have := h63; unfold maxLen at this; omega) (growslice_fits (by omega) hbytes)
      rw [hr] at hrun
      injection hrun with e1 e2
      subst e1
      exact .inr ⟨w.heap.size, rfl, Nat.le_refl _⟩
/-- copy, append, clear at an operation, by their runs. -/
theorem wp_copy_run {w : World} {o : Oper} {a : Act} {K : Act → World → Prop} {Q : Exit → Act → World → Prop} (d s : Operand) (t t' : TypeId)
    (ho : o.op = .call { callee := .builtin .copy, args := #[d, s], argTypes := #[t, t'] }) (v u : Value) (hd : a.eval d = v) (hs : a.eval s = u) {v' : Value} {w' : World}
    (hr : (Builtin.copy_ #[t, t'] o.type #[v, u]).run P w = .ok v' w') (h : K (a.put o.dst v') w') : o.wp P a w K Q := by
  unfold Oper.wp execOp
  simp only [ho, resolve, invoke, builtin, Sem.run_bind, Sem.run_pure, Result.andThen_ok, List.map_toArray, List.map_cons, List.map_nil, hd, hs, hr]
  exact h
theorem wpList_copy_run {w : World} {ops : Array Oper} {rest : List Oper} {o : Oper} {a : Act} {Q : Exit → Act → World → Prop} (hgd : o.guard = none) (d s : Operand) (t t' : TypeId)
    (ho : o.op = .call { callee := .builtin .copy, args := #[d, s], argTypes := #[t, t'] }) (v u : Value) (hd : a.eval d = v) (hs : a.eval s = u) {v' : Value} {w' : World}
    (hr : (Builtin.copy_ #[t, t'] o.type #[v, u]).run P w = .ok v' w') (h : wpList P ops Q rest (a.put o.dst v') w') : wpList P ops Q (o :: rest) a w :=
  wpList_plain hgd fun _ hK => wp_copy_run d s t t' ho v u hd hs hr (hK _ _ h)
theorem wp_append_run {w : World} {o : Oper} {a : Act} {K : Act → World → Prop} {Q : Exit → Act → World → Prop} (d s : Operand) (t t' : TypeId)
    (ho : o.op = .call { callee := .builtin .append, args := #[d, s], argTypes := #[t, t'] }) (v u : Value) (hd : a.eval d = v) (hs : a.eval s = u) {v' : Value} {w' : World}
    (hr : (Builtin.append_ #[t, t'] o.type #[v, u]).run P w = .ok v' w') (h : K (a.put o.dst v') w') : o.wp P a w K Q := by
  unfold Oper.wp execOp
  simp only [ho, resolve, invoke, builtin, Sem.run_bind, Sem.run_pure, Result.andThen_ok, List.map_toArray, List.map_cons, List.map_nil, hd, hs, hr]
  exact h
theorem wpList_append_run {w : World} {ops : Array Oper} {rest : List Oper} {o : Oper} {a : Act} {Q : Exit → Act → World → Prop} (hgd : o.guard = none) (d s : Operand) (t t' : TypeId)
    (ho : o.op = .call { callee := .builtin .append, args := #[d, s], argTypes := #[t, t'] }) (v u : Value) (hd : a.eval d = v) (hs : a.eval s = u) {v' : Value} {w' : World}
    (hr : (Builtin.append_ #[t, t'] o.type #[v, u]).run P w = .ok v' w') (h : wpList P ops Q rest (a.put o.dst v') w') : wpList P ops Q (o :: rest) a w :=
  wpList_plain hgd fun _ hK => wp_append_run d s t t' ho v u hd hs hr (hK _ _ h)
theorem wpList_clear_run {w : World} {ops : Array Oper} {rest : List Oper} {o : Oper} {a : Act} {Q : Exit → Act → World → Prop} (hgd : o.guard = none) (d : Operand) (t : TypeId)
    (ho : o.op = .call { callee := .builtin .clear, args := #[d], argTypes := #[t] }) (v : Value) (hd : a.eval d = v) {v' : Value} {w' : World}
    (hr : (Builtin.clear_ #[t] o.type #[v]).run P w = .ok v' w') (h : wpList P ops Q rest (a.put o.dst v') w') : wpList P ops Q (o :: rest) a w := by
  refine wpList_plain hgd fun _ hK => ?_
  unfold Oper.wp execOp
  simp only [ho, resolve, invoke, builtin, Sem.run_bind, Sem.run_pure, Result.andThen_ok, List.map_toArray, List.map_cons, List.map_nil, hd, hr]
  exact hK _ _ h
end
end Go.Proofs.Ytdpohbaeopidmaa

/- A region that draws its order and holds calls that write: an invariant of the world by what is done; each operation leaves a fact of its slot. No function of the program in sight. -/
namespace Go.Proofs.Ytdpohbaeopidmaa
set_option linter.unusedVariables false
set_option linter.unusedSimpArgs false
open Go.RowKit

/-- No relation of worlds. -/
abbrev Any2 : World → World → Prop := fun _ _ => True
def upd (l : Nat → Bool) (k : Nat) : Nat → Bool := fun i => if i = k then true else l i

def YieldsI (P : Program) (J : World → Prop) (o : Oper) (T : Act → World → Prop) (a : Act) (w : World) : Prop :=
  match (execOp a.eval o).run P w with
  | .ok (.value v) w' => J w' ∧ T (a.put o.dst v) w'
  | .ok .skip w' => J w' ∧ T (a.put o.dst undef) w'
  | .ok (.enter f args) w' => Calls P f args w' (fun e w'' => ∃ v, e = .returned v ∧ J w'' ∧ T (a.put o.dst v) w'')
  | _ => False
def opI (P : Program) (ops : Array Oper) (J : World → Prop) (o : Oper) (T : Act → World → Prop) (a : Act) (w : World) : Prop :=
  (Region.wanted o (yielded ops a.tmps) = true ∧ YieldsI P J o T a w) ∨ (Region.wanted o (yielded ops a.tmps) = false ∧ J w ∧ T (a.put o.dst undef) w)

section
variable {P : Program} {ops : Array Oper} {I : (Nat → Bool) → World → Prop} {a0 : Act} {D : List Tmp} {A : List (List Nat)} {Fs : List (TFact Any2)} {m : Nat} {Q : Exit → Act → World → Prop}

structure PInv (ops : Array Oper) (I : (Nat → Bool) → World → Prop) (a0 : Act) (D : List Tmp) (Fs : List (TFact Any2)) (m : Nat) (listed : Array Bool) (a : Act) (w : World) : Prop where
  sz : listed.size = ops.size
  env : Env a0 D a
  inv : I (fun i => listed.getD i false) w
  closed : ∀ j o, listed.getD j false = true → ops[j]? = some o → ∀ e ∈ o.after, Region.binds .any e = true → listed.getD e.on false = true
  typed : ∀ i S, listed.getD i false = true → Fs[i]? = some S → S.T a w
  un : ∀ i, m ≤ i → listed.getD i false = false

theorem upd_listed {listed : Array Bool} {i : Nat} (h : i < listed.size) : (fun j => (listed.setIfInBounds i true).getD j false) = upd (fun j => listed.getD j false) i := by
  funext j
  unfold upd
  by_cases hj : j = i
  · subst hj; rw [if_pos rfl]; exact getD_set_self h _
  · rw [if_neg hj]; exact getD_set_ne false (fun e => hj e.symm)

theorem phased_any (hok : okB ops D A (Fs.map TFact.L) m = true) (hlen : Fs.length = m) (hm : m = ops.size ∨ (m + 1 = ops.size ∧ ∀ j, j < m → j ∈ A.getD m []))
    (hstep : ∀ (k : Nat) (o : Oper) (S : TFact Any2), ops[k]? = some o → Fs[k]? = some S → ∀ l a w, Env a0 D a → I l w → l k = false → (∀ i ∈ A.getD k [], l i = true) → (∀ (i : Nat) (S' : TFact Any2), i ∈ A.getD k [] → Fs[i]? = some S' → S'.T a w) → opI P ops (I (upd l k)) o S.T a w)
    (hend : ∀ l a w, Env a0 D a → I l w → (∀ i, i < m → l i = true) → (∀ (i : Nat) (S : TFact Any2), Fs[i]? = some S → S.T a w) → if m = ops.size then Q .normal a w else wpOp P ops Q m (fun a w => Q .normal a w) a w) :
    ∀ (fuel : Nat) (listed : Array Bool) (a : Act) (w : World), PInv ops I a0 D Fs m listed a w → listed.toList.count false = fuel → wpAny P .any ops Q fuel listed a w := by
  intro fuel
  have hall : ∀ (listed : Array Bool), listed.size = ops.size → listed.toList.count false = 0 → Region.ready .any ops listed = [] ∧ ∀ i, i < ops.size → listed.getD i false = true := by
    intro listed hs h0
    rw [List.count_eq_zero] at h0
    have hx : ∀ i, i < ops.size → listed.getD i false = true := by
      intro i hi
      have hi' : i < listed.size := by omega
      have : listed[i] ∈ listed.toList := by simp
      have hne : listed[i] ≠ false := fun e => h0 (e ▸ this)
      simpa [hi'] using hne
    refine ⟨?_, hx⟩
    rw [List.eq_nil_iff_forall_not_mem]
    intro j hj
    obtain ⟨h1, o, ho, _⟩ := mem_ready.1 hj
    have hjs : j < ops.size := (Array.getElem?_eq_some_iff.1 ho).1
    have := hx j hjs
    rw [getD_of_size (by omega) false true] at this
    rw [this] at h1
    cases h1
  induction fuel with
  | zero =>
    intro listed a w hI h0
    obtain ⟨hr, hx⟩ := hall listed hI.sz h0
    refine ⟨hr, ?_⟩
    rcases hm with hm | ⟨hm, _⟩
    · have := hend _ a w hI.env hI.inv (fun i hi => hx i (by omega)) (fun i S hS => hI.typed i S (hx i (by have := (List.getElem?_eq_some_iff.1 hS).1; omega)) hS)
      rwa [if_pos hm] at this
    · have h1 := hx m (by omega)
      have h2 := hI.un m (Nat.le_refl _)
      rw [h1] at h2
      cases h2
  | succ fuel ih =>
    intro listed a w hI hcnt
    refine ⟨fun hr => ?_, fun i hi => ?_⟩
    · exfalso
      have : ∀ k, k < ops.size → listed.getD k false = true := by
        intro k
        induction k using Nat.strongRecOn with
        | _ k ihk =>
          intro hk
          cases hl : listed.getD k false with
          | true => rfl
          | false =>
            have ho : ops[k]? = some ops[k] := Array.getElem?_eq_getElem hk
            have : k ∈ Region.ready .any ops listed := mem_ready.2 ⟨by rw [getD_of_size (by have := hI.sz; omega) true false]; exact hl, _, ho, fun e he hb => by
              have hlt := (okB_at hok ho).1 e he hb
              exact ihk e.on hlt (by omega)⟩
            rw [hr] at this
            cases this
      have hz : listed.toList.count false = 0 := by
        rw [List.count_eq_zero]
        intro hmem
        obtain ⟨i, hi, he⟩ := List.getElem_of_mem hmem
        have hi' : i < listed.size := by simpa using hi
        have := this i (by have := hI.sz; omega)
        simp [hi'] at this
        simp [this] at he
      omega
    · obtain ⟨hun, o, ho, hpre⟩ := mem_ready.1 hi
      have hio : i < ops.size := (Array.getElem?_eq_some_iff.1 ho).1
      have his : i < listed.size := by have := hI.sz; omega
      have hanc := anc_listed hok hI.closed hI.sz i o ho hpre
      by_cases him : i < m
      · obtain ⟨S, hS⟩ : ∃ S, Fs[i]? = some S := ⟨_, List.getElem?_eq_getElem (by omega)⟩
        have hst := hstep i o S ho hS _ a w hI.env hI.inv (by rw [getD_of_size his false true]; exact hun) hanc (fun j S' hj hS' => hI.typed j S' (hanc j hj) hS')
        -- the state behind the operation
        have hnext : ∀ v w', I (upd (fun j => listed.getD j false) i) w' → S.T (a.put o.dst v) w' → PInv ops I a0 D Fs m (listed.setIfInBounds i true) (a.put o.dst v) w' := by
          intro v w' hR hT
          obtain ⟨_, _, h3⟩ := okB_at hok ho
          have h3 := h3 him
          refine ⟨by simpa using hI.sz, ⟨?_, ?_, ?_⟩, by rw [upd_listed his]; exact hR, ?_, ?_, ?_⟩
          · rw [← hI.env.size]; cases hd : o.dst <;> simp [Act.put]
          · rw [← hI.env.defers]; cases hd : o.dst <;> simp [Act.put]
          · intro t ht
            rw [← hI.env.keep t ht]
            cases hd : o.dst with
            | none => simp [Act.put]
            | some d =>
              have := (h3 d hd).1
              have hne : d ≠ t := fun e => ht (e ▸ this)
              simp [Act.put, Array.getElem?_setIfInBounds_ne hne]
          · intro j oj hj hoj e he hb
            by_cases hji : i = j
            · subst hji
              rw [ho] at hoj
              cases hoj
              by_cases hei : i = e.on
              · rw [← hei]; exact getD_set_self his _
              · rw [getD_set_ne false hei]; exact hpre e he hb
            · rw [getD_set_ne false hji] at hj
              by_cases hei : i = e.on
              · rw [← hei]; exact getD_set_self his _
              · rw [getD_set_ne false hei]; exact hI.closed j oj hj hoj e he hb
          · intro j S' hj hS'
            by_cases hji : i = j
            · subst hji
              rw [hS] at hS'
              cases hS'
              exact hT
            · rw [getD_set_ne false hji] at hj
              have hold := S'.mono _ w w' trivial (hI.typed j S' hj hS')
              refine S'.loc _ _ _ (fun t ht => ?_) hold
              cases hd : o.dst with
              | none => simp [Act.put]
              | some d =>
                have hja : i ∉ A.getD j [] := by
                  intro hmem
                  obtain ⟨oj, hoj⟩ : ∃ oj, ops[j]? = some oj := ⟨_, Array.getElem?_eq_getElem (by have := (List.getElem?_eq_some_iff.1 hS').1; omega)⟩
                  have := anc_listed hok hI.closed hI.sz j oj hoj (hI.closed j oj hj hoj) i hmem
                  rw [getD_of_size his false true, hun] at this
                  cases this
                have hne : d ≠ t := fun e => (h3 d hd).2 j S' hS' (fun e => hji e.symm) hja (e ▸ ht)
                simp [Act.put, Array.getElem?_setIfInBounds_ne hne]
          · intro j hj
            have : i ≠ j := by omega
            rw [getD_set_ne false this]
            exact hI.un j hj
        have hk : ∀ v w', I (upd (fun j => listed.getD j false) i) w' → S.T (a.put o.dst v) w' → wpAny P .any ops Q fuel (listed.setIfInBounds i true) (a.put o.dst v) w' :=
          fun v w' hR hT => ih _ _ _ (hnext v w' hR hT) (count_set his hun _ hcnt)
        unfold wpOp
        simp only [ho]
        rcases hst with ⟨hw, hy⟩ | ⟨hw, hJ, hT⟩
        · rw [if_pos hw]
          refine .inl ?_
          unfold YieldsI at hy
          unfold Oper.wp
          generalize (execOp a.eval o).run P w = r at hy ⊢
          cases r with
          | halt x w' => exact hy.elim
          | ok n w' =>
            cases n <;> simp only [Oper.upon] at hy ⊢
            case value v => exact hk v w' hy.1 hy.2
            case skip => exact hk undef w' hy.1 hy.2
            case enter f args =>
              refine hy.mono fun e w'' ⟨v, he, hR, hT⟩ => ?_
              subst he
              exact hk v w'' hR hT
        · rw [if_neg (by rw [hw]; exact Bool.false_ne_true)]
          exact hk undef w hJ hT
      · rcases hm with hm | ⟨hm, hmall⟩
        · omega
        · obtain rfl : i = m := by omega
          have hl : ∀ j, j < i → listed.getD j false = true := fun j hj => hanc j (hmall j hj)
          have he := hend _ a w hI.env hI.inv (fun j hj => hl j hj) (fun j S hS => hI.typed j S (hl j (by have := (List.getElem?_eq_some_iff.1 hS).1; omega)) hS)
          rw [if_neg (by omega)] at he
          have hf0 : fuel = 0 := by
            have hz : (listed.setIfInBounds i true).toList.count false = 0 := by
              rw [List.count_eq_zero]
              intro hmem
              obtain ⟨j, hj, hje⟩ := List.getElem_of_mem hmem
              have hj' : j < listed.size := by simpa using hj
              by_cases hji : i = j
              · subst hji
                simp at hje
              · have := hl j (by have := hI.sz; omega)
                rw [← getD_set_ne (i := i) false hji] at this
                simp [hj'] at this
                rw [Array.getElem_toList, this] at hje
                cases hje
            have := count_set his hun _ hcnt
            omega
          subst hf0
          refine wpOp_mono (fun a' w' hq => ?_) he
          exact ⟨(hall _ (by simpa using hI.sz) (count_set his hun _ hcnt)).1, hq⟩


inductive BuildI (P : Program) (ops : Array Oper) (I : (Nat → Bool) → World → Prop) (a0 : Act) (D : List Tmp) (A : List (List Nat)) (G : List (Nat × TFact Any2) → Prop) : Nat → List Oper → List (Nat × TFact Any2) → Prop
  | stop {k : Nat} {os : List Oper} {done : List (Nat × TFact Any2)} (h : G done) : BuildI P ops I a0 D A G k os done
  | step {k : Nat} {o : Oper} {os : List Oper} {done : List (Nat × TFact Any2)} (S : TFact Any2) (h : ∀ l a w, Env a0 D a → I l w → l k = false → (∀ i ∈ A.getD k [], l i = true) → (∀ (i : Nat) (S' : TFact Any2), i ∈ A.getD k [] → (i, S') ∈ done → S'.T a w) → opI P ops (I (upd l k)) o S.T a w)
      (hr : BuildI P ops I a0 D A G (k + 1) os ((k, S) :: done)) : BuildI P ops I a0 D A G k (o :: os) done

variable {G : List (Nat × TFact Any2) → Prop} {k : Nat} {o : Oper} {os : List Oper} {done : List (Nat × TFact Any2)} {d : Tmp} {v : Value}
theorem BuildI.use (hb : BuildI P ops I a0 D A G k os done) (hk : k = done.length) (hwf : ∀ (i : Nat) (S : TFact Any2), (i, S) ∈ done → (facts done)[i]? = some S) : ∃ fin : List (Nat × TFact Any2), G fin ∧ (∀ (i : Nat) (S : TFact Any2), (facts done)[i]? = some S → (facts fin)[i]? = some S) ∧
    (∀ (i : Nat) (S : TFact Any2), (i, S) ∈ fin → (facts fin)[i]? = some S) ∧ done.length ≤ fin.length ∧
    ∀ (i : Nat) (o : Oper) (S : TFact Any2), os[i]? = some o → (facts fin)[k + i]? = some S → ∀ l a w, Env a0 D a → I l w → l (k + i) = false → (∀ j ∈ A.getD (k + i) [], l j = true) → (∀ (j : Nat) (S' : TFact Any2), j ∈ A.getD (k + i) [] → (facts fin)[j]? = some S' → S'.T a w) → opI P ops (I (upd l (k + i))) o S.T a w := by
  induction hb with
  | stop h =>
    rename_i k os done
    refine ⟨done, h, fun _ _ h => h, hwf, Nat.le_refl _, fun i o S _ hS => ?_⟩
    rw [List.getElem?_eq_none (by rw [facts_length]; omega)] at hS
    cases hS
  | step S h hr ih =>
    rename_i k o os done
    have hpre0 : ∀ (i : Nat) (S' : TFact Any2), (facts done)[i]? = some S' → (facts ((k, S) :: done))[i]? = some S' := fun i S' hi => by
      have hlt := (List.getElem?_eq_some_iff.1 hi).1
      rw [facts_cons, List.getElem?_append_left hlt]; exact hi
    obtain ⟨fin, hG, h1, hw, h2, h4⟩ := ih (by simp [hk]) (fun i S' hm => by
      rcases List.mem_cons.1 hm with he | hm
      · cases he
        rw [facts_cons, hk, ← facts_length done]
        simp
      · exact hpre0 i S' (hwf i S' hm))
    refine ⟨fin, hG, fun i S' hi => h1 i S' (hpre0 i S' hi), hw, by simp at h2; omega, ?_⟩
    intro i o' S' hi hS
    cases i with
    | zero =>
      simp at hi
      subst hi
      have : (facts fin)[k + 0]? = some S := h1 k S (by rw [facts_cons, hk, ← facts_length done]; simp)
      rw [this] at hS
      cases hS
      intro l a w hE hR hl hA hF
      exact h l a w hE hR hl hA (fun j S' hj hd => hF j S' hj (h1 j S' (hpre0 j S' (hwf j S' hd))))
    | succ i =>
      have := h4 i o' S' (by simpa using hi) (by rwa [show k + 1 + i = k + (i + 1) by omega])
      intro l a w hE hR hl hA hF
      rw [show k + (i + 1) = k + 1 + i by omega] at hl hA ⊢
      exact this l a w hE hR hl hA (fun j S' hj hd => hF j S' (by rwa [show k + (i + 1) = k + 1 + i by omega]) hd)


/-- THE THEOREM: each operation's fact, shown once, and the invariant kept. -/
theorem wp_region_phased {id : Nat} {l : List Oper} {w : World} (Fs : List (TFact Any2)) (A : List (List Nat)) (D : List Tmp) (hf : P.follows .mixedOrders = true) (hok : okB l.toArray D A (Fs.map TFact.L) Fs.length = true)
    (hm : (decide (Fs.length = l.length) || (decide (Fs.length + 1 = l.length) && (List.range Fs.length).all fun j => (A.getD Fs.length []).contains j)) = true)
    (hw0 : I (fun _ => false) w.drew)
    (hstep : ∀ (k : Nat) (o : Oper) (S : TFact Any2), l[k]? = some o → Fs[k]? = some S → ∀ L a w, Env a0 D a → I L w → L k = false → (∀ i ∈ A.getD k [], L i = true) → (∀ (i : Nat) (S' : TFact Any2), i ∈ A.getD k [] → Fs[i]? = some S' → S'.T a w) → opI P l.toArray (I (upd L k)) o S.T a w)
    (hend : ∀ L a w, Env a0 D a → I L w → (∀ i, i < Fs.length → L i = true) → (∀ (i : Nat) (S : TFact Any2), Fs[i]? = some S → S.T a w) → if Fs.length = l.length then Q .normal a w else wpOp P l.toArray Q Fs.length (fun a w => Q .normal a w) a w) :
    (Code.region id l.toArray true).wp P Q a0 w := by
  refine wp_region_any hf ?_
  refine phased_any (a0 := a0) (I := I) (Fs := Fs) (A := A) (D := D) (m := Fs.length) hok rfl ?_ (by simpa using hstep) (by simpa using hend) _ _ _ _ ?_ (by simp)
  · simp only [Bool.or_eq_true, Bool.and_eq_true, decide_eq_true_eq, List.all_eq_true, List.mem_range, List.contains_iff_mem] at hm
    simpa using hm
  · refine ⟨by simp, ⟨rfl, rfl, fun _ _ => rfl⟩, ?_, ?_, ?_, ?_⟩
    · have e : (fun i => (Array.replicate l.toArray.size false).getD i false) = fun _ => false := funext fun i => none_yet _ _
      rw [e]
      exact hw0
    · intro j o hj
      rw [none_yet] at hj
      cases hj
    · intro i S hi
      rw [none_yet] at hi
      cases hi
    · intro i _
      exact none_yet _ _

def FinI (P : Program) (l : List Oper) (I : (Nat → Bool) → World → Prop) (a0 : Act) (D : List Tmp) (A : List (List Nat)) (Q : Exit → Act → World → Prop) (fin : List (Nat × TFact Any2)) : Prop :=
  okB l.toArray D A ((facts fin).map TFact.L) fin.length = true ∧
    ((fin.length = l.length ∧ ∀ L a w, Env a0 D a → I L w → (∀ i, i < fin.length → L i = true) → (∀ (i : Nat) (S : TFact Any2), (i, S) ∈ fin → S.T a w) → Q .normal a w) ∨
     ((decide (fin.length + 1 = l.length) && (List.range fin.length).all fun j => (A.getD fin.length []).contains j) = true ∧ ∃ o, l[fin.length]? = some o ∧ o.guard = none ∧
        ∀ L a w, Env a0 D a → I L w → (∀ i, i < fin.length → L i = true) → (∀ (i : Nat) (S : TFact Any2), (i, S) ∈ fin → S.T a w) → o.wp P a w (fun a w => Q .normal a w) Q))
theorem wp_phased {id : Nat} {l : List Oper} {w : World} (I : (Nat → Bool) → World → Prop) (A : List (List Nat)) (D : List Tmp) (hw0 : I (fun _ => false) w.drew) (hf : P.follows .mixedOrders = true)
    (h : BuildI P l.toArray I a0 D A (FinI P l I a0 D A Q) 0 l []) : (Code.region id l.toArray true).wp P Q a0 w := by
  obtain ⟨fin, ⟨hok, hG⟩, -, hw, -, hstep⟩ := h.use rfl (fun _ _ h => by cases h)
  have hlen := facts_length fin
  refine wp_region_phased (I := I) (facts fin) A D hf (by rw [hlen]; exact hok) ?_ hw0 (fun k o S h1 h2 L a w hE hR hl hA hF => by
    have := hstep k o S h1 (by simpa using h2) L a w hE hR (by simpa using hl) (by simpa using hA) (by simpa using hF)
    simpa using this) (fun L a w hE hR hA hF => ?_)
  · rw [hlen]
    rcases hG with hG | hG
    · simp [hG.1]
    · rw [hG.1]; simp
  · rw [hlen]
    rw [hlen] at hA
    rcases hG with hG | hG
    · rw [if_pos hG.1]; exact hG.2 L a w hE hR hA (fun i S hm => hF i S (hw i S hm))
    · obtain ⟨hl, o, ho, hg, hend⟩ := hG
      have hl : fin.length + 1 = l.length := by simp at hl; exact hl.1
      rw [if_neg (by omega)]
      unfold wpOp
      simp only [List.getElem?_toArray, ho]
      rw [if_pos (wanted_none hg)]
      exact .inl (hend L a w hE hR hA (fun i S hm => hF i S (hw i S hm)))

theorem BuildI.det (d : Tmp) {v : Value} (hI : ∀ l w, I l w → I (upd l k) w) (hd : o.dst = some d) (hn : Nat.blt d a0.tmps.size = true) (hg : o.guard = none)
    (h : ∀ l a w, Env a0 D a → I l w → (∀ (i : Nat) (S' : TFact Any2), i ∈ A.getD k [] → (i, S') ∈ done → S'.T a w) → (execOp a.eval o).run P w = .ok (.value v) w)
    (hr : BuildI P ops I a0 D A G (k + 1) os ((k, Proofs.Ytdpohbaeopidmaa.det d v) :: done)) : BuildI P ops I a0 D A G k (o :: os) done :=
  .step _ (fun l a w hE hR _ _ hF => .inl ⟨wanted_none hg, by
    unfold YieldsI
    rw [h l a w hE hR hF]
    exact ⟨hI l w hR, by rw [hd]; exact eval_put (by rw [hE.size]; exact Nat.le_of_ble_eq_true hn)⟩⟩) hr
/-- A call; its law may ask what is done. -/
theorem BuildI.call (d : Tmp) {v : Value} {f : FuncId} {args : Array Value} (hd : o.dst = some d) (hn : Nat.blt d a0.tmps.size = true) (hg : o.guard = none)
    (h : ∀ l a w, Env a0 D a → I l w → (∀ (i : Nat) (S' : TFact Any2), i ∈ A.getD k [] → (i, S') ∈ done → S'.T a w) → (execOp a.eval o).run P w = .ok (.enter f args) w)
    (hc : ∀ l w, I l w → l k = false → (∀ i ∈ A.getD k [], l i = true) → Calls P f args w fun e w' => e = .returned v ∧ I (upd l k) w')
    (hr : BuildI P ops I a0 D A G (k + 1) os ((k, Proofs.Ytdpohbaeopidmaa.det d v) :: done)) : BuildI P ops I a0 D A G k (o :: os) done :=
  .step _ (fun l a w hE hR hl hA hF => .inl ⟨wanted_none hg, by
    unfold YieldsI
    rw [h l a w hE hR hF]
    exact (hc l w hR hl hA).mono fun e w' ⟨he, hI⟩ => ⟨v, he, hI, by rw [hd]; exact eval_put (by rw [hE.size]; exact Nat.le_of_ble_eq_true hn)⟩⟩) hr
end
end Go.Proofs.Ytdpohbaeopidmaa
