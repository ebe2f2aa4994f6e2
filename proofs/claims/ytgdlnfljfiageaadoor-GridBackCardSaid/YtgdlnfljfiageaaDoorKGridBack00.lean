/- Words for memory: a block known whole; only one block (and what is new) has turned. Plain lemmas over worlds, no program in sight. -/
import Derived.Test.YtgdlnfljfiageaaDoorRows
import Derived.WalkKit
import Derived.WalkSpells
import Derived.WalkLawsBesides
import Derived.Lib.Hide
import Derived.Deep.QuietTactic
import Derived.BigQuiet
import Derived.Deep.DeepCutAuto
import Derived.Deep.LoopGhost
import Derived.Lib.FrozenHead2
import Derived.RegionTactic
namespace Go.Proofs.YtgdlnfljfiageaaDoor
set_option linter.unusedVariables false
set_option linter.unusedSimpArgs false
open Go.RowKit

/-- Block g is just the cells cs of type t, none frozen. -/
def Blk (w : World) (g : Nat) (t : TypeId) (cs : Array Value) : Prop := w.heap[g]? = some (.cells cs t (0, 0))

section
variable {w w' : World} {g : Nat} {t : TypeId} {cs : Array Value}
theorem Blk.lt (h : Blk w g t cs) : g < w.heap.size := by
  rcases Nat.lt_or_ge g w.heap.size with hlt | hge
  · exact hlt
  · unfold Blk at h; rw [Array.getElem?_eq_none hge] at h; cases h
theorem Blk.cell (h : Blk w g t cs) (i : Nat) : w.cell? ⟨g, i, none⟩ = cs[i]? := cell_of_row w g i cs t (0, 0) h
theorem Blk.frozen (h : Blk w g t cs) (i : Nat) : w.frozen? ⟨g, i, none⟩ = false := by
  unfold Blk at h
  simp [World.frozen?, h]
theorem Blk.new (w : World) (t : TypeId) (cs : Array Value) : Blk (w.alloc (.cells cs t)) w.heap.size t cs := heap_alloc_new w _
theorem Blk.drew (h : Blk w g t cs) : Blk w.drew g t cs := h
theorem Blk.drewN (h : Blk w g t cs) (n : Nat) : Blk (w.drewN n) g t cs := h
theorem Blk.alloc (h : Blk w g t cs) (o : Obj) : Blk (w.alloc o) g t cs := (Below.heap_alloc w o g h.lt).trans h
theorem Blk.set_ (h : Blk w g t cs) (i : Nat) (u : Value) : Blk (w.setCell ⟨g, i, none⟩ u) g t (cs.setIfInBounds i u) := by
  unfold Blk at h ⊢
  simp [World.setCell, Array.getElem?_modify, h]
theorem Blk.far (h : Blk w g t cs) {p : Addr} (hp : g ≠ p.block) (u : Value) : Blk (w.setCell p u) g t cs := (Below.heap_setCell w p u g hp).trans h
theorem Blk.below {B : Nat} (h : Blk w g t cs) (hb : Below B w w') (hg : g < B) : Blk w' g t cs := (hb.block g hg).trans h
theorem Blk.grown {row : Option Nat} (h : Blk w g t cs) (hb : w.grownBy w' row) (hg : some g ≠ row) : Blk w' g t cs := (hb.block g h.lt hg).trans h
end

/-- Behind a deed on block g: it holds cs; of what was there nothing else has turned. -/
structure Upd (w : World) (g : Nat) (t : TypeId) (cs : Array Value) (w' : World) : Prop where
  blk : Blk w' g t cs
  grown : w.grownBy w' (some g)

section
variable {a w w' : World} {g : Nat} {t : TypeId} {cs cs' : Array Value} {row : Option Nat}
theorem Z3r {a b c : World} {row : Option Nat} (h : a.grownBy b row) (k : b.grownBy c row) : a.grownBy c row :=
  ⟨k.os.trans h.os, k.tape.trans h.tape, k.output.trans h.output, Nat.le_trans h.size k.size, fun i hi hne => (k.block i (Nat.lt_of_lt_of_le hi h.size) hne).trans (h.block i hi hne)⟩
theorem Z67 (h : a.grownBy w row) : a.grownBy w.drew row := ⟨h.os, h.tape, h.output, h.size, h.block⟩
theorem Z0w {g : Nat} (h : a.grownBy w (some g)) {p : Addr} (hp : p.block = g ∨ a.heap.size ≤ p.block) (u : Value) : a.grownBy (w.setCell p u) (some g) :=
  ⟨h.os, h.tape, h.output, by simpa [World.setCell] using h.size, fun i hi hne => (Below.heap_setCell w p u i (by
    rintro rfl
    rcases hp with hp | hp
    · exact hne (by rw [hp])
    · omega)).trans (h.block i hi hne)⟩
theorem Z1r (h : Below a.heap.size a w) (row : Option Nat) : a.grownBy w row := ⟨h.os, h.tape, h.output, h.size, fun i hi _ => h.block i hi⟩

theorem Upd.refl (h : Blk w g t cs) : Upd w g t cs w := ⟨h, World.grownBy.refl w _⟩
theorem Upd.set (h : Upd a g t cs w) (i : Nat) (u : Value) : Upd a g t (cs.setIfInBounds i u) (w.setCell ⟨g, i, none⟩ u) :=
  ⟨h.blk.set_ i u, Z0w h.grown (.inl rfl) u⟩
theorem Upd.drew (h : Upd a g t cs w) : Upd a g t cs w.drew := ⟨h.blk, Z67 h.grown⟩
theorem Upd.trans {b : World} (h : Upd a g t cs b) (k : Upd b g t cs' w) : Upd a g t cs' w := ⟨k.blk, Z3r h.grown k.grown⟩
/-- The deed was on a block of the call's own. -/
theorem Upd.below {B : Nat} {A : World} (h : Upd w g t cs w') (hA : Below B A w) (hg : B ≤ g) (hB : B ≤ w.heap.size) : Below B A w' :=
  hA.grown h.grown hB (fun k e => by injection e with e; omega)
end

end Go.Proofs.YtgdlnfljfiageaaDoor

/- append onto a row of the call's own whose head may be frozen: as the library's laws (Lib/FrozenHead, FrozenHead2), and besides: the new row is the old one or a new block. No program in sight. -/
namespace Go.Proofs.YtgdlnfljfiageaaDoor
set_option linter.unusedVariables false
set_option linter.unusedSimpArgs false
open Go Go.RowKit Go.Lib

theorem Z2p {w : World} {base base' : Nat} {e : TypeId} {size : Nat} {v : Value} {n : Nat} {xs : List Value} (h : w.ownsRowF base e size v n xs) (hb : base' ≤ base) : w.ownsRowF base' e size v n xs := by
  refine ⟨h.1, ?_⟩
  rcases h.2 with hn | ⟨g, cap, cur, fz, hv, hg, rest⟩
  · exact .inl hn
  · exact .inr ⟨g, cap, cur, fz, hv, Nat.le_trans hb hg, rest⟩
theorem Z2b {w w' : World} {e : TypeId} {size : Nat} {v : Value} {n : Nat} {xs : List Value} (h : w'.ownsRowF w.heap.size e size v n xs) : v.ownBlock = (Value.slice none 0 0).ownBlock ∨ ∃ k, v.ownBlock = some k ∧ w.heap.size ≤ k := by
  rcases h.2 with ⟨rfl, _⟩ | ⟨g, cap, cur, fz, rfl, hg, _⟩
  · exact .inl rfl
  · exact .inr ⟨g, rfl, hg⟩

section
variable {P : Program} (w : World)

theorem Z1z (base : Nat) (t u ty e : TypeId) (i : TypeInfo) (ht : P.underlying t = some (.slice e)) (hu : P.underlying u = some .string) (hi : P.info? e = some i) (hz : i.zero = some (.int .u8 0))
    (hsize : i.size = 1) (hby : i.bytes = 1)
    (v : Value) (n : Nat) (xs : List Value) (hown : w.ownsRowF base e 1 v n xs) (s : ByteArray)
    (h63 : n + s.size ≤ maxLen) (hbytes : n + s.size ≤ 140737488355328) (hbase : base ≤ w.heap.size) :
    ∃ v' w', (Builtin.append_ #[t, u] ty #[v, .string s]).run P w = .ok v' w' ∧ w'.ownsRowF base e 1 v' (n + s.size) (xs ++ strCells s) ∧ w.grownBy w' v.ownBlock ∧
      (v'.ownBlock = v.ownBlock ∨ ∃ k, v'.ownBlock = some k ∧ w.heap.size ≤ k) := by
  rcases hown.2 with ⟨rfl, rfl⟩ | ⟨g, cap, cur, fz, rfl, hbg, hg, hfz, hnc, hcm, hcs, htake⟩
  · -- no row yet: the elder law
    obtain ⟨v', w', h1, h2, h3, h4⟩ := run_append_own_string (P := P) w w.heap.size t u ty e i ht hu hi hz hsize hby (.slice none 0 0) 0 xs ⟨hown.1, .inl ⟨rfl, rfl⟩⟩ s h63 hbytes (Nat.le_refl _)
    exact ⟨v', w', h1, Z2p (World.ownsRowF_of h2) hbase, h3, Z2b (World.ownsRowF_of h2)⟩
  · have hsmall : n + s.size ≤ 9223372036854775807 := by simp only [maxLen] at h63; omega
    have hxl : xs.length = n := by simpa using hown.1
    have hlen : (xs ++ strCells s).length = (n + s.size) * 1 := by rw [List.length_append, hxl, strCells_length, Nat.mul_one]
    by_cases hroom : n + s.size ≤ cap
    · have hcs' : cur.size = cap := by simpa using hcs
      have hr := run_append_room_stringF (P := P) w t u ty e i ht hu hi hsize g n cap cur fz hg (by simpa using hfz) s hroom (by omega)
      refine ⟨_, _, hr, ⟨hlen, .inr ⟨g, cap, _, fz, rfl, hbg, setRow_heap w g cur _ e _ hg, by omega, hroom, hcm, ?_, ?_⟩⟩, ⟨rfl, rfl, rfl, by simp, fun k _ hk => setRow_other w g k _ (fun e => hk (by simp [Value.ownBlock, e]))⟩, .inl rfl⟩
      · simp only [List.size_toArray, List.length_append, List.length_take, List.length_drop, Array.length_toList, strCells_length]
        omega
      · have ht' : cur.toList.take n = xs := by simpa using htake
        rw [ht', ← hlen]
        exact List.take_left
    · have holds : ∀ j u, xs[j]? = some u → w.cell? ((⟨g, 0, none⟩ : Addr).add j) = some u := hown.cells (g := g) rfl
      have hr := run_append_grow_string (P := P) w t u ty e i (.int .u8 0) ht hu hi hz ⟨g, 0, none⟩ n cap xs (by rw [hsize]; simpa using hxl) holds s (by omega) (by omega) (by rw [hby]; exact growslice_fits (by omega) (by omega))
      have hge := grownCap_ge w (n + s.size) cap e
      have hcm2 : grownCap w (n + s.size) cap e ≤ maxLen := grownCap_le_maxLen w (n + s.size) cap e h63
      refine ⟨_, _, hr, ⟨hlen, .inr ⟨w.heap.size, _, _, (0, 0), rfl, hbase, _root_.Go.heap_alloc_new w.drew _, Nat.zero_le _, hge, hcm2, ?_, ?_⟩⟩, ⟨rfl, rfl, rfl, by simp, fun k hk _ => _root_.Go.heap_alloc_old w.drew _ hk⟩, .inr ⟨_, rfl, Nat.le_refl _⟩⟩
      · have hz1 : (Value.int IntKind.u8 0).cells.size = 1 := rfl
        simp only [Array.size_append, List.size_toArray, size_zeroCells, hz1, hxl, strCells_length]
        omega
      · simp only [Array.toList_append, List.append_assoc]
        rw [← List.append_assoc, ← hlen]
        exact List.take_left

theorem Z2x {ops : Array Oper} {rest : List Oper} {o : Oper} {a : Act} {Q : Exit → Act → World → Prop} (hgd : o.guard = none) (sl x : Operand) (t u : TypeId)
    (ho : o.op = .call { callee := .builtin .append, args := #[sl, x], argTypes := #[t, u] })
    (base : Nat) (e : TypeId) (i : TypeInfo) (ht : P.underlying t = some (.slice e)) (hu : P.underlying u = some .string) (hi : P.info? e = some i) (hz : i.zero = some (.int .u8 0))
    (hsize : i.size = 1) (hby : i.bytes = 1)
    (v : Value) (n : Nat) (xs : List Value) (hs : a.eval sl = v) (hown : w.ownsRowF base e 1 v n xs) (s : ByteArray) (hx : a.eval x = .string s)
    (h63 : n + s.size ≤ maxLen) (hbytes : n + s.size ≤ 140737488355328) (hbase : base ≤ w.heap.size)
    (h : ∀ v' w', w'.ownsRowF base e 1 v' (n + s.size) (xs ++ strCells s) → w.grownBy w' v.ownBlock → (v'.ownBlock = v.ownBlock ∨ ∃ k, v'.ownBlock = some k ∧ w.heap.size ≤ k) → wpList P ops Q rest (a.put o.dst v') w') : wpList P ops Q (o :: rest) a w := by
  refine wpList_plain hgd fun K hK => ?_
  obtain ⟨v', w', hr, h2, h3, h4⟩ := Z1z (P := P) w base t u o.type e i ht hu hi hz hsize hby v n xs hown s h63 hbytes hbase
  unfold Oper.wp execOp
  simp only [ho, resolve, invoke, builtin, Sem.run_bind, Sem.run_pure, Result.andThen_ok, List.map_toArray, List.map_cons, List.map_nil, hs, hx, hr]
  exact hK _ _ (h v' w' h2 h3 h4)


theorem Z22 (base : Nat) (t ty e : TypeId) (i : TypeInfo) (z : Value) (size bytes : Nat) (ht : P.underlying t = some (.slice e)) (hi : P.info? e = some i) (hz : i.zero = some z)
    (hsize : i.size = size) (hby : i.bytes = bytes) (hzs : z.cells.size = size) (hsz : 0 < size)
    (v : Value) (n : Nat) (xs : List Value) (hown : w.ownsRowF base e size v n xs)
    (a : Addr) (m c : Nat) (news : List Value) (hl : news.length = m * size) (hnews : ∀ j u, news[j]? = some u → w.cell? (a.add j) = some u) (h1 : ∀ u ∈ news, u.oneCell' = true)
    (h63 : n + m ≤ maxLen) (hbytes : (n + m) * bytes ≤ 140737488355328) (hbase : base ≤ w.heap.size) :
    ∃ v' w', (Builtin.append_ #[t, t] ty #[v, .slice (some a) m c]).run P w = .ok v' w' ∧ w'.ownsRowF base e size v' (n + m) (xs ++ news) ∧ w.grownBy w' v.ownBlock ∧
      (v'.ownBlock = v.ownBlock ∨ ∃ k, v'.ownBlock = some k ∧ w.heap.size ≤ k) := by
  rcases hown.2 with ⟨rfl, rfl⟩ | ⟨g, cap, cur, fz, rfl, hbg, hg, hfz, hnc, hcm, hcs, htake⟩
  · obtain ⟨v', w', r1, r2, r3, r4⟩ := run_append_own (P := P) w w.heap.size t ty e i z size bytes ht hi hz hsize hby hzs hsz (.slice none 0 0) 0 xs ⟨hown.1, .inl ⟨rfl, rfl⟩⟩ a m c news hl hnews h1 h63 hbytes (Nat.le_refl _)
    exact ⟨v', w', r1, Z2p (World.ownsRowF_of r2) hbase, r3, Z2b (World.ownsRowF_of r2)⟩
  · subst hsize
    subst hby
    have hsmall : n + m ≤ 9223372036854775807 := by simp only [maxLen] at h63; omega
    have hlen : (xs ++ news).length = (n + m) * i.size := by rw [List.length_append, hown.1, hl, Nat.add_mul]
    by_cases hroom : n + m ≤ cap
    · have hfit : n * i.size + news.length ≤ cur.size := by rw [hl, hcs, ← Nat.add_mul]; exact Nat.mul_le_mul_right _ hroom
      have hr := run_append_roomF (P := P) w t ty e i ht hi g n cap cur fz hg hfz a m c news hl hnews h1 hroom hfit
      refine ⟨_, _, hr, ⟨hlen, .inr ⟨g, cap, _, fz, rfl, hbg, setRow_heap w g cur _ e _ hg, Nat.le_trans hfz (Nat.mul_le_mul_right _ (Nat.le_add_right n m)), hroom, hcm, ?_, ?_⟩⟩, ⟨rfl, rfl, rfl, by simp, fun k _ hk => setRow_other w g k _ (fun e => hk (by simp [Value.ownBlock, e]))⟩, .inl rfl⟩
      · simp only [List.size_toArray, List.length_append, List.length_take, List.length_drop, Array.length_toList]
        omega
      · rw [htake, ← hlen]
        exact List.take_left
    · have holds : ∀ j u, xs[j]? = some u → w.cell? ((⟨g, 0, none⟩ : Addr).add j) = some u := hown.cells (g := g) rfl
      have hr := run_append_grow (P := P) w t ty e i z ht hi hz ⟨g, 0, none⟩ n cap xs hown.1 holds a m c news hl hnews (by omega) (by omega) (growslice_fits (by omega) hbytes)
      have hge := grownCap_ge w (n + m) cap e
      have hcm2 : grownCap w (n + m) cap e ≤ maxLen := grownCap_le_maxLen w (n + m) cap e h63
      refine ⟨_, _, hr, ⟨hlen, .inr ⟨w.heap.size, _, _, (0, 0), rfl, hbase, _root_.Go.heap_alloc_new w.drew _, Nat.zero_le _, hge, hcm2, ?_, ?_⟩⟩, ⟨rfl, rfl, rfl, by simp, fun k hk _ => _root_.Go.heap_alloc_old w.drew _ hk⟩, .inr ⟨_, rfl, Nat.le_refl _⟩⟩
      · simp only [Array.size_append, List.size_toArray, size_zeroCells, hzs, hown.1, hl, ← Nat.add_mul]
        congr 1
        omega
      · simp only [Array.toList_append, List.append_assoc]
        rw [← List.append_assoc, ← hlen]
        exact List.take_left

end
end Go.Proofs.YtgdlnfljfiageaaDoor

/- The walks of strings.Builder's methods on the builder of the call's own. -/
namespace Go.Proofs.YtgdlnfljfiageaaDoor
set_option linter.unusedVariables false
set_option linter.unusedSimpArgs false
open Go.RowKit

/-- Block b is a Writer that holds the bytes l; its buffer is block g (none: it has none yet). 'p': what the builder's 'addr' holds. -/
def WrPS (w : World) (b : Nat) (g : Option Nat) (p : Value) (l : List UInt8) : Prop :=
  ∃ v, w.heap[b]? = some (.cells #[p, v] 45 (0, 0)) ∧ w.ownsRowF 0 5 1 v l.length (Lib.byteCells l) ∧ v.ownBlock = g
def WrS (w : World) (b : Nat) (g : Option Nat) (l : List UInt8) : Prop := WrPS w b g (.pointer none) l ∨ WrPS w b g (.pointer (some ⟨b, 0, none⟩)) l

/-- Of what was there nothing has turned but block b and its buffer g; the buffer is now g', the old one or a new one. -/
structure WroteS (w : World) (b : Nat) (g g' : Option Nat) (w' : World) : Prop where
  os : w'.os = w.os
  tape : w'.tape = w.tape
  output : w'.output = w.output
  size : w.heap.size ≤ w'.heap.size
  block : ∀ k, k < w.heap.size → k ≠ b → some k ≠ g → w'.heap[k]? = w.heap[k]?
  own : g' = g ∨ ∃ k, g' = some k ∧ w.heap.size ≤ k

theorem WroteS.refl (w : World) (b : Nat) (g : Option Nat) : WroteS w b g g w := ⟨rfl, rfl, rfl, Nat.le_refl _, fun _ _ _ _ => rfl, .inl rfl⟩
theorem WroteS.trans {a c d : World} {b : Nat} {g g' g'' : Option Nat} (h : WroteS a b g g' c) (k : WroteS c b g' g'' d) : WroteS a b g g'' d := by
  refine ⟨k.os.trans h.os, k.tape.trans h.tape, k.output.trans h.output, Nat.le_trans h.size k.size, fun i hi hb hg => ?_, ?_⟩
  · refine (k.block i (Nat.lt_of_lt_of_le hi h.size) hb ?_).trans (h.block i hi hb hg)
    rcases h.own with rfl | ⟨j, rfl, hj⟩
    · exact hg
    · intro e
      injection e with e
      omega
  · rcases k.own with rfl | ⟨j, rfl, hj⟩
    · exact h.own
    · exact .inr ⟨j, rfl, Nat.le_trans h.size hj⟩
theorem WroteS.drew {a c : World} {b : Nat} {g g' : Option Nat} (h : WroteS a b g g' c) : WroteS a b g g' c.drew := ⟨h.os, h.tape, h.output, h.size, h.block, h.own⟩
/-- Both the writer and its buffer lie from B on: below B nothing has turned. -/
theorem WroteS.below {A w w' : World} {B b : Nat} {g g' : Option Nat} (h : WroteS w b g g' w') (hA : Below B A w) (hB : B ≤ w.heap.size) (hb : B ≤ b) (hg : ∀ k, g = some k → B ≤ k) : Below B A w' :=
  hA.trans ⟨h.os, h.tape, h.output, h.size, fun k hk => h.block k (by omega) (by omega) (fun e => by have := hg k e.symm; omega)⟩
theorem WrPS.lt {w : World} {b : Nat} {g : Option Nat} {p : Value} {l : List UInt8} (h : WrPS w b g p l) : b < w.heap.size := by
  obtain ⟨v, hb, _⟩ := h
  exact Blk.lt hb
theorem WrPS.ne {w : World} {b : Nat} {g : Option Nat} {p : Value} {l : List UInt8} (h : WrPS w b g p l) : g ≠ some b := by
  obtain ⟨v, hb, hown, rfl⟩ := h
  exact Lib.ownBlock_neF hown hb (by decide)
theorem WrPS.own_lt {w : World} {b : Nat} {g : Option Nat} {p : Value} {l : List UInt8} (h : WrPS w b g p l) : ∀ k, g = some k → k < w.heap.size := by
  obtain ⟨v, hb, hown, rfl⟩ := h
  exact fun k hk => (hown.lt k hk).2
/-- Kept where neither block has turned. -/
theorem WrPS.keep {w w' : World} {b : Nat} {g : Option Nat} {p : Value} {l : List UInt8} (h : WrPS w b g p l) (hb : w'.heap[b]? = w.heap[b]?) (hg : ∀ k, g = some k → w'.heap[k]? = w.heap[k]?) : WrPS w' b g p l := by
  obtain ⟨v, h1, h2, h3⟩ := h
  refine ⟨v, hb.trans h1, ⟨h2.1, ?_⟩, h3⟩
  rcases h2.2 with hn | ⟨g', cap, cur, fz, rfl, hbg, hgg, rest⟩
  · exact .inl hn
  · exact .inr ⟨g', cap, cur, fz, rfl, hbg, (hg g' (by rw [← h3]; rfl)).trans hgg, rest⟩
theorem WrS.lt {w : World} {b : Nat} {g : Option Nat} {l : List UInt8} (h : WrS w b g l) : b < w.heap.size := h.elim WrPS.lt WrPS.lt
theorem WrS.ne {w : World} {b : Nat} {g : Option Nat} {l : List UInt8} (h : WrS w b g l) : g ≠ some b := h.elim WrPS.ne WrPS.ne
theorem WrS.own_lt {w : World} {b : Nat} {g : Option Nat} {l : List UInt8} (h : WrS w b g l) : ∀ k, g = some k → k < w.heap.size := h.elim WrPS.own_lt WrPS.own_lt
theorem WrS.keep {w w' : World} {b : Nat} {g : Option Nat} {l : List UInt8} (h : WrS w b g l) (hb : w'.heap[b]? = w.heap[b]?) (hg : ∀ k, g = some k → w'.heap[k]? = w.heap[k]?) : WrS w' b g l :=
  h.elim (fun h => .inl (h.keep hb hg)) (fun h => .inr (h.keep hb hg))
theorem WrS.drew {w : World} {b : Nat} {g : Option Nat} {l : List UInt8} (h : WrS w b g l) : WrS w.drew b g l := h
theorem WrS.alloc {w : World} {b : Nat} {g : Option Nat} {l : List UInt8} (h : WrS w b g l) (o : Obj) : WrS (w.alloc o) b g l :=
  h.keep (Below.heap_alloc w o b h.lt) (fun k hk => Below.heap_alloc w o k (h.own_lt k hk))
theorem WrS.below {w w' : World} {b : Nat} {g : Option Nat} {l : List UInt8} (h : WrS w b g l) (hb : Below w.heap.size w w') : WrS w' b g l :=
  h.keep (hb.block b h.lt) (fun k hk => hb.block k (h.own_lt k hk))
/-- Another writer's deed. -/
theorem WrS.other {w w' : World} {b b2 : Nat} {g g2 g3 : Option Nat} {l : List UInt8} (h : WrS w b g l) (k : WroteS w b2 g2 g3 w') (hb : b ≠ b2) (hg : g2 ≠ some b) (hb2 : g ≠ some b2) (hgg : g ≠ g2 ∨ g = none) : WrS w' b g l :=
  h.keep (k.block b h.lt hb (fun e => hg e.symm)) (fun j hj => k.block j (h.own_lt j hj) (fun e => hb2 (by rw [hj, e])) (fun e => by
    rcases hgg with hh | hh
    · exact hh (by rw [hj, e])
    · rw [hh] at hj; cases hj))
theorem sizeBS : (Tryd.prog.info? 45).map (·.size) = some 2 := by kernel_rfl
theorem liesBS : liesAt Tryd.prog Tryd.prog.depth 45 (2 / Tryd.prog.cellsOf 45) 0 45 1 = true := by kernel_rfl
theorem infoByteS : (Tryd.prog.info? 5).map (fun i => (i.zero, i.size, i.bytes)) = some (some (.int .u8 0), 1, 1) := by kernel_rfl
set_option maxHeartbeats 1000000 in
set_option maxRecDepth 100000 in
theorem Z2g (b : Nat) (w : World) (h0 : w.cell? ⟨b, 0, none⟩ = some (.pointer (some ⟨b, 0, none⟩))) :
    Calls Tryd.prog 35 #[.pointer (some ⟨b, 0, none⟩)] w fun e w' => e = .returned (.tuple #[]) ∧ w' = w := by
  obtain ⟨j, hj, _⟩ := Option.map_eq_some_iff.1 sizeBS
  go_enter Tryd.func35, Tryd.ntmps35
  go_wp2
  rw [Lib.run_neq_ptr_same w _ Tryd.underlying42 hj]
  go_wp2
  go_end0
  exact ⟨rfl, rfl⟩

set_option maxHeartbeats 1000000 in
set_option maxRecDepth 100000 in
theorem Z21 (b : Nat) (w : World) (h0 : w.cell? ⟨b, 0, none⟩ = some (.pointer none)) (hsh : w.shape? b = some (45, 2)) (hfz : w.frozen? ⟨b, 0, none⟩ = false) :
    Calls Tryd.prog 35 #[.pointer (some ⟨b, 0, none⟩)] w fun e w' => e = .returned (.tuple #[]) ∧ w' = w.setCell ⟨b, 0, none⟩ (.pointer (some ⟨b, 0, none⟩)) := by
  obtain ⟨j, hj, hjs⟩ := Option.map_eq_some_iff.1 sizeBS
  go_enter Tryd.func35, Tryd.ntmps35
  go_wp2
  rw [Lib.run_to_unsafe w ⟨b, 0, none⟩ Tryd.underlying42 Tryd.underlying87 hj (by rw [hjs]; decide) hsh (Nat.zero_lt_succ 1)]
  simp only [Result.andThen]
  rw [Oper.upon_value]
  go_wp2
  rw [run_callFunc_extern Tryd.func54 (by kernel_rfl) (by kernel_rfl) (by kernel_rfl) (e := Extern.AbiNoEscape.same) (by kernel_rfl)]
  rw [Lib.run_noEscape]
  simp only [Result.andThen]
  rw [Oper.upon_value]
  go_wp2
  rw [Lib.run_from_unsafe w ⟨b, 0, none⟩ Tryd.underlying87 Tryd.underlying42 hj hsh liesBS]
  simp only [Result.andThen]
  rw [Oper.upon_value]
  go_wp2
  go_end0
  exact ⟨rfl, rfl⟩

theorem Z4x {w : World} {b : Nat} {g : Option Nat} (i : Nat) (u : Value) : WroteS w b g g (w.setCell ⟨b, i, none⟩ u) :=
  ⟨rfl, rfl, rfl, by simp [World.setCell], fun k _ hk _ => Below.heap_setCell _ _ _ _ hk, .inl rfl⟩

theorem Z2i (b : Nat) (g : Option Nat) (l : List UInt8) (w : World) (h : WrS w b g l) :
    Calls Tryd.prog 35 #[.pointer (some ⟨b, 0, none⟩)] w fun e w' => e = .returned (.tuple #[]) ∧ WrPS w' b g (.pointer (some ⟨b, 0, none⟩)) l ∧ WroteS w b g g w' := by
  rcases h with h | h
  · have hne := h.ne
    have h' := h
    obtain ⟨v, hb, hown, hg⟩ := h
    refine (Z21 b w (Blk.cell hb 0) (by simp [World.shape?, hb]) (Blk.frozen hb 0)).mono ?_
    rintro e w' ⟨rfl, rfl⟩
    refine ⟨rfl, ⟨v, Blk.set_ hb 0 _, ?_, hg⟩, Z4x 0 _⟩
    refine hown.kept (row := some b) ⟨rfl, rfl, rfl, by simp [World.setCell], fun k _ hk => Below.heap_setCell _ _ _ _ (fun e => hk (by simp [e]))⟩ (.inr (by rw [hg]; exact hne))
  · have h' := h
    obtain ⟨v, hb, hown, hg⟩ := h
    refine (Z2g b w (Blk.cell hb 0)).mono ?_
    rintro e w' ⟨rfl, rfl⟩
    exact ⟨rfl, h', WroteS.refl _ _ _⟩
end Go.Proofs.YtgdlnfljfiageaaDoor

/- The walks of strings.Builder's WriteString, WriteByte, String on the builder of the call's own. -/
namespace Go.Proofs.YtgdlnfljfiageaaDoor
set_option linter.unusedVariables false
set_option linter.unusedSimpArgs false
open Go.RowKit

theorem Z1y (a b : List UInt8) : Lib.byteCells (a ++ b) = Lib.byteCells a ++ Lib.byteCells b := by simp [Lib.byteCells]

/-- Behind an append the new buffer is stored into the writer. -/
theorem Z5c {w1 w2 : World} {b : Nat} {g : Option Nat} {v v' p : Value} {l' : List UInt8} (hb : w1.heap[b]? = some (.cells #[p, v] 45 (0, 0))) (hv : v.ownBlock = g) (hne : g ≠ some b)
    (hown : w2.ownsRowF 0 5 1 v' l'.length (Lib.byteCells l')) (hgrow : w1.grownBy w2 v.ownBlock) (hf : v'.ownBlock = v.ownBlock ∨ ∃ k, v'.ownBlock = some k ∧ w1.heap.size ≤ k) :
    WrPS (w2.setCell ⟨b, 1, none⟩ v') b v'.ownBlock p l' ∧ WroteS w1 b g v'.ownBlock (w2.setCell ⟨b, 1, none⟩ v') := by
  have hlt : b < w1.heap.size := Blk.lt hb
  have hb2 : w2.heap[b]? = some (.cells #[p, v] 45 (0, 0)) := (hgrow.block b hlt (fun e => hne (by rw [← hv, e]))).trans hb
  have hne' : v'.ownBlock ≠ some b := Lib.ownBlock_neF hown hb2 (by decide)
  refine ⟨⟨v', Blk.set_ hb2 1 v', ?_, rfl⟩, ⟨hgrow.os, hgrow.tape, hgrow.output, by simpa [World.setCell] using hgrow.size, fun k hk hkb hkg => ?_, ?_⟩⟩
  · exact hown.kept (row := some b) ⟨rfl, rfl, rfl, by simp [World.setCell], fun k _ hk => Below.heap_setCell _ _ _ _ (fun e => hk (by simp [e]))⟩ (.inr hne')
  · exact (Below.heap_setCell _ _ _ _ hkb).trans (hgrow.block k hk (by rw [hv]; exact hkg))
  · rw [hv] at hf
    exact hf

set_option maxHeartbeats 2000000 in
set_option maxRecDepth 100000 in
theorem Z20 (b : Nat) (g : Option Nat) (l : List UInt8) (s : ByteArray) (w : World) (h : WrS w b g l) (hlen : l.length + s.size ≤ 140737488355328) :
    Calls Tryd.prog 18 #[.pointer (some ⟨b, 0, none⟩), .string s] w fun e w' => e = .returned (.tuple #[.int .i64 s.size, .nilIface]) ∧ ∃ g', WrPS w' b g' (.pointer (some ⟨b, 0, none⟩)) (l ++ s.data.toList) ∧ WroteS w b g g' w' := by
  obtain ⟨i0, hi, hz0, hz1, hz2⟩ := info_parts infoByteS
  have hne := h.ne
  go_enter Tryd.func18, Tryd.ntmps18
  go_wp2_with fail
  refine (Z2i b g l _ h).mono ?_
  rintro e w1 ⟨rfl, h1, k1⟩
  obtain ⟨v, hbk, hown, hg⟩ := h1
  have Hg := Lib.hid hg
  clear hg
  have c0 : w1.cell? ⟨b, 0, none⟩ = some (.pointer (some ⟨b, 0, none⟩)) := Blk.cell hbk 0
  have c1 : w1.cell? ⟨b, 1, none⟩ = some v := Blk.cell hbk 1
  go_wp2_with (at_builtin; refine Z2x _ rfl _ _ 43 9 rfl 0 5 i0 Tryd.underlying43 Tryd.underlying9 hi hz0 hz1 hz2 _ _ _ rfl hown s rfl ?c3 ?c4 ?c5 ?_)
  case c3 => unfold maxLen; omega
  case c4 => omega
  case c5 => omega
  intro v' w2 hown' hgrow hfr
  rw [show Lib.strCells s = Lib.byteCells s.data.toList from rfl, ← Z1y] at hown'
  have hown2 : w2.ownsRowF 0 5 1 v' (l ++ s.data.toList).length (Lib.byteCells (l ++ s.data.toList)) := by simpa using hown'
  have hb2 : w2.heap[b]? = some (.cells #[.pointer (some ⟨b, 0, none⟩), v] 45 (0, 0)) := (hgrow.block b (Blk.lt hbk) (fun e => hne (by rw [← Hg.out, e]))).trans hbk
  have d1 : w2.cell? ⟨b, 1, none⟩ = some v := Blk.cell hb2 1
  have f1 : w2.frozen? ⟨b, 1, none⟩ = false := Blk.frozen hb2 1
  obtain ⟨k2, k3⟩ := Z5c hbk Hg.out hne hown2 hgrow hfr
  have hex : ∃ ao n' cap, v' = .slice ao n' cap := by
    rcases hown'.2 with ⟨hv, _⟩ | ⟨g, cap, cur, fz, hv, _⟩
    · exact ⟨_, _, _, hv⟩
    · exact ⟨_, _, _, hv⟩
  obtain ⟨ao, n', cap, rfl⟩ := hex
  clear hown' hown2 hgrow hfr hown
  have K2 := Lib.hid k2
  have K3 := Lib.hid (k1.trans k3)
  clear k1 k2 k3
  go_wp2
  go_ret2
  exact ⟨rfl, _, K2.out, K3.out⟩

end Go.Proofs.YtgdlnfljfiageaaDoor
