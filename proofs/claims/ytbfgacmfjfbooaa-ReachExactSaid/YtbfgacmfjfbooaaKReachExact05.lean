/- Plain: bytes of numbers, the sum of bytes (CRC) as a linear, one-to-one step. No program in sight. -/
import Derived.Test.YtbfgacmfjfbooaaKReachExact00
import Derived.Test.YtbfgacmfjfbooaaKReachExact04
import Derived.RegionTactic
import Derived.Laws.BitsAllLaws
import Derived.Lib.Strings
import Derived.Lib.SmallJoins
import Derived.Test.YtbfgacmfjfbooaaKReachExact01
namespace Go.Proofs.Ytbfgacmfjfbooaa
set_option linter.unusedVariables false
set_option linter.unusedSimpArgs false

/-- The lowest k bytes of n, the lowest first. -/
def le (n : Nat) : Nat → List UInt8
  | 0 => []
  | k + 1 => le n k ++ [UInt8.ofNat (n / 256 ^ k)]
open Go.RowKit

/-- Block b is a Writer that holds the bytes l; its buffer is block g (none: it has none yet). 'p': what the builder's 'addr' holds. -/
def WrP (w : World) (b : Nat) (g : Option Nat) (p : Value) (l : List UInt8) : Prop :=
  ∃ v, w.heap[b]? = some (.cells #[p, v] 113 (0, 0)) ∧ w.ownsRowF 0 5 1 v l.length (Lib.byteCells l) ∧ v.ownBlock = g
def Wr (w : World) (b : Nat) (g : Option Nat) (l : List UInt8) : Prop := WrP w b g (.pointer none) l ∨ WrP w b g (.pointer (some ⟨b, 0, none⟩)) l

/-- Of what was there nothing has turned but block b and its buffer g; the buffer is now g', the old one or a new one. -/
structure Wrote (w : World) (b : Nat) (g g' : Option Nat) (w' : World) : Prop where
  os : w'.os = w.os
  tape : w'.tape = w.tape
  output : w'.output = w.output
  size : w.heap.size ≤ w'.heap.size
  block : ∀ k, k < w.heap.size → k ≠ b → some k ≠ g → w'.heap[k]? = w.heap[k]?
  own : g' = g ∨ ∃ k, g' = some k ∧ w.heap.size ≤ k

theorem Wrote.refl (w : World) (b : Nat) (g : Option Nat) : Wrote w b g g w := ⟨rfl, rfl, rfl, Nat.le_refl _, fun _ _ _ _ => rfl, .inl rfl⟩
theorem Wrote.trans {a c d : World} {b : Nat} {g g' g'' : Option Nat} (h : Wrote a b g g' c) (k : Wrote c b g' g'' d) : Wrote a b g g'' d := by
  refine ⟨k.os.trans h.os, k.tape.trans h.tape, k.output.trans h.output, Nat.le_trans h.size k.size, fun i hi hb hg => ?_, ?_⟩
  · refine (k.block i (Nat.lt_of_lt_of_le hi h.size) hb ?_).trans (h.block i hi hb hg)
    rcases h.own with rfl | ⟨j, rfl, hj⟩
    · exact hg
    · intro e
      injection e with e
      omega
  · rcases k.own with rfl | ⟨j, rfl, hj⟩
    · exact h.own
    · exact .inr ⟨j, rfl, Nat.le_trans h.size hj⟩
theorem Wrote.drew {a c : World} {b : Nat} {g g' : Option Nat} (h : Wrote a b g g' c) : Wrote a b g g' c.drew := ⟨h.os, h.tape, h.output, h.size, h.block, h.own⟩
/-- Both the writer and its buffer lie from B on: below B nothing has turned. -/
theorem Wrote.below {A w w' : World} {B b : Nat} {g g' : Option Nat} (h : Wrote w b g g' w') (hA : Below B A w) (hB : B ≤ w.heap.size) (hb : B ≤ b) (hg : ∀ k, g = some k → B ≤ k) : Below B A w' :=
  hA.trans ⟨h.os, h.tape, h.output, h.size, fun k hk => h.block k (by omega) (by omega) (fun e => by have := hg k e.symm; omega)⟩
theorem WrP.lt {w : World} {b : Nat} {g : Option Nat} {p : Value} {l : List UInt8} (h : WrP w b g p l) : b < w.heap.size := by
  obtain ⟨v, hb, _⟩ := h
  exact Blk.lt hb
theorem WrP.ne {w : World} {b : Nat} {g : Option Nat} {p : Value} {l : List UInt8} (h : WrP w b g p l) : g ≠ some b := by
  obtain ⟨v, hb, hown, rfl⟩ := h
  exact Lib.ownBlock_neF hown hb (by decide)
theorem WrP.own_lt {w : World} {b : Nat} {g : Option Nat} {p : Value} {l : List UInt8} (h : WrP w b g p l) : ∀ k, g = some k → k < w.heap.size := by
  obtain ⟨v, hb, hown, rfl⟩ := h
  exact fun k hk => (hown.lt k hk).2
/-- Kept where neither block has turned. -/
theorem WrP.keep {w w' : World} {b : Nat} {g : Option Nat} {p : Value} {l : List UInt8} (h : WrP w b g p l) (hb : w'.heap[b]? = w.heap[b]?) (hg : ∀ k, g = some k → w'.heap[k]? = w.heap[k]?) : WrP w' b g p l := by
  obtain ⟨v, h1, h2, h3⟩ := h
  refine ⟨v, hb.trans h1, ⟨h2.1, ?_⟩, h3⟩
  rcases h2.2 with hn | ⟨g', cap, cur, fz, rfl, hbg, hgg, rest⟩
  · exact .inl hn
  · exact .inr ⟨g', cap, cur, fz, rfl, hbg, (hg g' (by rw [← h3]; rfl)).trans hgg, rest⟩
theorem Wr.lt {w : World} {b : Nat} {g : Option Nat} {l : List UInt8} (h : Wr w b g l) : b < w.heap.size := h.elim WrP.lt WrP.lt
theorem Wr.ne {w : World} {b : Nat} {g : Option Nat} {l : List UInt8} (h : Wr w b g l) : g ≠ some b := h.elim WrP.ne WrP.ne
theorem Wr.own_lt {w : World} {b : Nat} {g : Option Nat} {l : List UInt8} (h : Wr w b g l) : ∀ k, g = some k → k < w.heap.size := h.elim WrP.own_lt WrP.own_lt
theorem Wr.keep {w w' : World} {b : Nat} {g : Option Nat} {l : List UInt8} (h : Wr w b g l) (hb : w'.heap[b]? = w.heap[b]?) (hg : ∀ k, g = some k → w'.heap[k]? = w.heap[k]?) : Wr w' b g l :=
  h.elim (fun h => .inl (h.keep hb hg)) (fun h => .inr (h.keep hb hg))
theorem Wr.drew {w : World} {b : Nat} {g : Option Nat} {l : List UInt8} (h : Wr w b g l) : Wr w.drew b g l := h
theorem Wr.alloc {w : World} {b : Nat} {g : Option Nat} {l : List UInt8} (h : Wr w b g l) (o : Obj) : Wr (w.alloc o) b g l :=
  h.keep (Below.heap_alloc w o b h.lt) (fun k hk => Below.heap_alloc w o k (h.own_lt k hk))
theorem Wr.below {w w' : World} {b : Nat} {g : Option Nat} {l : List UInt8} (h : Wr w b g l) (hb : Below w.heap.size w w') : Wr w' b g l :=
  h.keep (hb.block b h.lt) (fun k hk => hb.block k (h.own_lt k hk))
/-- Another writer's deed. -/
theorem Wr.other {w w' : World} {b b2 : Nat} {g g2 g3 : Option Nat} {l : List UInt8} (h : Wr w b g l) (k : Wrote w b2 g2 g3 w') (hb : b ≠ b2) (hg : g2 ≠ some b) (hb2 : g ≠ some b2) (hgg : g ≠ g2 ∨ g = none) : Wr w' b g l :=
  h.keep (k.block b h.lt hb (fun e => hg e.symm)) (fun j hj => k.block j (h.own_lt j hj) (fun e => hb2 (by rw [hj, e])) (fun e => by
    rcases hgg with hh | hh
    · exact hh (by rw [hj, e])
    · rw [hh] at hj; cases hj))
/-- The cells of a row of bytes with room up to c. -/
def rowOf (L : List UInt8) (c : Nat) : Array Value := (Lib.byteCells L ++ List.replicate (c - L.length) (Value.int .u8 0)).toArray
theorem rowOf_get (L : List UInt8) (c i : Nat) (h : i < L.length) : (rowOf L c)[i]? = some (.int .u8 ((L.getD i 0).toNat : Int)) := by
  simp only [rowOf, List.getElem?_toArray]
  rw [List.getElem?_append_left (by simpa [Lib.byteCells] using h)]
  simp [Lib.byteCells, List.getD, h]
theorem rowOf_set (L : List UInt8) (c i : Nat) (x : UInt8) (h : i < L.length) : (rowOf L c).setIfInBounds i (.int .u8 (x.toNat : Int)) = rowOf (L.set i x) c := by
  apply Array.ext'
  simp only [rowOf, Array.toList_setIfInBounds, List.length_set]
  rw [List.set_append_left _ _ (by simpa [Lib.byteCells] using h)]
  simp [Lib.byteCells, List.map_set]
/-- Block g holds the bytes L, with room up to c behind them; none of them is frozen. -/
def Bytes (w : World) (g : Nat) (L : List UInt8) (c : Nat) : Prop := ∃ fz : Nat × Nat, w.heap[g]? = some (.cells (rowOf L c) 5 fz) ∧ (fz = (0, 0) ∨ c ≤ fz.1)
section
variable {w w' : World} {g c : Nat} {L : List UInt8}
theorem Bytes.lt (h : Bytes w g L c) : g < w.heap.size := by
  obtain ⟨fz, h, _⟩ := h
  rcases Nat.lt_or_ge g w.heap.size with hlt | hge
  · exact hlt
  · rw [Array.getElem?_eq_none hge] at h; cases h
theorem Bytes.cell (h : Bytes w g L c) {i : Nat} (hi : i < L.length) : w.cell? ⟨g, i, none⟩ = some (.int .u8 ((L.getD i 0).toNat : Int)) := by
  obtain ⟨fz, h, _⟩ := h
  exact (cell_of_row w g i _ _ _ h).trans (rowOf_get L c i hi)
theorem Bytes.frozen (h : Bytes w g L c) {i : Nat} (hi : i < c) : w.frozen? ⟨g, i, none⟩ = false := by
  obtain ⟨⟨a, b⟩, h, hf⟩ := h
  rcases hf with hf | hf
  · injection hf with ha hb
    subst ha hb
    simp [World.frozen?, h]
  · simp only at hf
    simp [World.frozen?, h]
    omega
theorem Bytes.set_ (h : Bytes w g L c) {i : Nat} (hi : i < L.length) (x : UInt8) : Bytes (w.setCell ⟨g, i, none⟩ (.int .u8 (x.toNat : Int))) g (L.set i x) c := by
  obtain ⟨fz, h, hf⟩ := h
  refine ⟨fz, ?_, hf⟩
  rw [← rowOf_set L c i x hi]
  simp [World.setCell, Array.getElem?_modify, h]
theorem Bytes.below (h : Bytes w g L c) (hb : Below w.heap.size w w') : Bytes w' g L c := by
  have hlt := h.lt
  obtain ⟨fz, h, hf⟩ := h
  exact ⟨fz, (hb.block g hlt).trans h, hf⟩
theorem Bytes.drew (h : Bytes w g L c) : Bytes w.drew g L c := h
theorem Bytes.made : Bytes (w.alloc (.cells (rowOf L c) 5)) w.heap.size L c := ⟨_, heap_alloc_new w _, .inl rfl⟩
theorem Bytes.conv (h : Bytes w g L c) (cap n : Nat) (hn : L.length = n) : (convert 69 9 (.slice (some ⟨g, 0, none⟩) n cap)).run Try.prog w = .ok (.string ⟨L.toArray⟩) w :=
  Z7a w g 0 cap L n hn (fun i hi => by rw [Nat.zero_add]; exact h.cell (by omega))
end

/-- The world as it was, and the cells of one block that are read: for functions that only read. -/
def tAll (w0 : World) (ce : Option (Nat × List Value)) (hc : ∀ b xs, ce = some (b, xs) → b < w0.heap.size ∧ ∀ j v, xs[j]? = some v → w0.cell? ⟨b, j, none⟩ = some v) : Thing where
  foot := List.range w0.heap.size
  holds := fun w => w0.heap.size ≤ w.heap.size ∧ ∀ i, i < w0.heap.size → w.heap[i]? = w0.heap[i]?
  keep := fun w w' hs h ⟨h1, h2⟩ => ⟨Nat.le_trans h1 hs, fun i hi => (h i (List.mem_range.2 hi)).trans (h2 i hi)⟩
  lt := fun w h i hi => Nat.lt_of_lt_of_le (List.mem_range.1 hi) h.1
  cel := ce
  celOk := fun w b xs e h j v hv => by
    obtain ⟨h1, h2⟩ := hc b xs e
    have := h2 j v hv
    unfold World.cell? at this ⊢
    rw [h.2 b h1]
    exact this
  bas := some w0
  basOk := fun w A e h => by cases e; exact h.2
theorem all0 (w : World) (ce hc) : OwnT 0 w [tAll w ce hc] w := ⟨⟨rfl, rfl, rfl, Nat.le_refl _, fun _ _ => rfl⟩, Nat.zero_le _, ⟨⟨Nat.le_refl _, fun _ _ => rfl⟩, trivial⟩, fun _ _ _ _ => Nat.zero_le _, List.pairwise_singleton _ _⟩
theorem allE {w0 w : World} {ce hc} {L : List Thing} (i : Nat) (O : OwnT 0 w0 L w) (hi : L[i]? = some (tAll w0 ce hc)) : Ext w0 w := by
  have h : (tAll w0 ce hc).holds w := O.all.mem (List.mem_of_getElem? hi)
  exact ⟨O.below.os, O.below.tape, O.below.output, h.1, fun i hi => h.2 i hi⟩
theorem rowCe {w : World} {T : TypeId} {k n : Nat} {v : Value} {xs : List Value} (hr : w.ownsRow 0 T k v n xs) : ∃ ce, (∀ b ys, ce = some (b, ys) → b < w.heap.size ∧ ∀ j u, ys[j]? = some u → w.cell? ⟨b, j, none⟩ = some u) ∧ (0 < n → ∃ b c, v = .slice (some ⟨b, 0, none⟩) n c ∧ ce = some (b, xs)) := by
  rcases hr.2 with ⟨-, h0⟩ | ⟨g, cap, cur, h1, -, h2, h3, h4, h5, h6⟩
  · exact ⟨none, (fun _ _ h => by cases h), fun h => by omega⟩
  · refine ⟨some (g, xs), fun b ys e => ?_, fun _ => ⟨g, cap, h1, rfl⟩⟩
    cases e
    refine ⟨?_, fun j u hu => ?_⟩
    · rcases Nat.lt_or_ge g w.heap.size with hlt | hge
      · exact hlt
      · rw [Array.getElem?_eq_none hge] at h2; cases h2
    · unfold World.cell?
      simp only [h2]
      rw [← h6, List.getElem?_take] at hu
      split at hu
      · simpa using hu
      · cases hu
section
variable {fn : Func} {R : Ending → World → Prop} {H n : Nat} {A : World} {m : Mp} {a : Act} {w : World} {ops : List Oper} {fr is : List Nat} {LI : List Thing} {ks : List Kf} {L : List Thing} {i : Nat}
theorem x_rowset {P : Program} {o : Oper} {ρ : Operand → Value} {x y : Operand} {T t : TypeId} {k N g c off : Nat} {xs : List Value} {v : Value} {Rs : List Thing} (O : OwnT H A (tRow T k (.slice (some ⟨g, 0, none⟩) N c) N xs :: Rs) w) (ho : o.op = .store t x y) (hx : ρ x = .pointer (some ⟨g, off, none⟩)) (hy : ρ y = v) (hs : (P.info? t).map (·.size) = some v.cells.size) (h1 : v.oneCell' = true) (hoff : off < xs.length) :
    (execOp ρ o).run P w = .ok .skip (w.setCell ⟨g, off, none⟩ v) ∧ OwnT H A (tRow T k (.slice (some ⟨g, 0, none⟩) N c) N (xs.set off v) :: Rs) (w.setCell ⟨g, off, none⟩ v) := by
  have hr := O.r0
  rcases hr.2 with ⟨hn, _⟩ | ⟨g', cap, cur, he, _, hB, h2, h3, h4, h5⟩
  · cases hn
  obtain ⟨rfl, rfl⟩ : g = g' ∧ c = cap := by injection he with e1 e2 e3; injection e1 with e1; injection e1 with e1; exact ⟨e1, e3⟩
  have hlen : xs.length = N * k := hr.1
  have hN : N * k ≤ c * k := Nat.mul_le_mul_right k h2
  have hv : v.cells = #[v] := by cases v <;> first | rfl | (simp [Value.oneCell'] at h1)
  refine ⟨?_, ?_⟩
  · have hrun := run_st (P := P) (t := t) (v := v) (off := off) (show Blk w g T cur from hB) hs (by rw [hv]; simp [h1]) (by rw [hv]; exact Nat.ble_eq_true_of_le (by show off + 1 ≤ cur.size; omega))
    rw [hv] at hrun
    unfold execOp
    simp only [ho, hx, hy, Instr.storeAt, Instr.sureAddr, Sem.run_bind, Sem.run_pure, Result.andThen_ok, hrun]
    rfl
  · refine O.row (Z3x (T := T) (k := k) (Blk.set_ (show Blk w g T cur from hB) off v) h2 h3 (by simpa using h4) ?_) (Z1h (World.grownBy.refl w _) (.inl rfl) v) (.inl rfl)
    rw [Array.toList_setIfInBounds, List.take_set, h5]
/-- A cell of a row turned, in a walk. -/
theorem gQ {fn : Func} {o : Oper} {T t : TypeId} {x y : Operand} {k N g c : Nat} {xs : List Value} (h : Hold H A (tRow T k (.slice (some ⟨g, 0, none⟩) N c) N xs :: L) n m (.s ops fr LI (i :: is)) a w) (v : Value) (off : Nat) (ho : nthT ops i = some o) (hd : o.dst = none) (e : gd m ops o.guard [] [] = some (true, [], [])) (hop : o.op = .store t x y)
    (hx : opv m x = some (.pointer (some ⟨g, off, none⟩))) (hy : opv m y = some v) (hs : (Try.prog.info? t).map (·.size) = some v.cells.size) (h1 : v.oneCell' = true) (hoff : off < xs.length) (hI : ∀ w', OwnT H A (tRow T k (.slice (some ⟨g, 0, none⟩) N c) N (xs.set off v) :: L) w' → Ths w' LI)
    (hn : ∀ a' w', Hold H A (tRow T k (.slice (some ⟨g, 0, none⟩) N c) N (xs.set off v) :: L) n m (.s ops fr LI is) a' w' → At Try.prog fn R ks (.s ops fr LI is) a' w') (hm : memN fr i = false := by rfl) : At Try.prog fn R ks (.s ops fr LI (i :: is)) a w := by
  obtain ⟨hr, O2⟩ := x_rowset h.O hop (h.M.opv _ _ hx) (h.M.opv _ _ hy) hs h1 hoff
  exact suG h [] ho hd e hr O2 (hI _ O2) (fun a' h' => hn a' _ h') hm
theorem run_bs0 {t T : TypeId} {k bytes : Nat} (hE : chkE Try.prog t T k bytes = true) {o : Oper} {ρ : Operand → Value} (ho : o.op = .buildSlice t 0 #[]) (w : World) : (execOp ρ o).run Try.prog w = .ok (.value (.slice (some ⟨w.heap.size, 0, none⟩) 0 0)) (w.alloc (.cells #[] T)) := by
  obtain ⟨E1, i0, z, hi0, hz, hsz, hby, hzs⟩ := Z5j hE
  have hsize : (sizeOf T).run Try.prog w = .ok i0.size w := by simp [sizeOf, typeInfo, hi0, Sem.run_bind]
  unfold execOp
  simp [ho, Instr.buildSlice, run_underlying E1, Sem.run_bind, hsize, Instr.fill, newRow, newObj]
  have hem : Array.map (fun _ => (default : Value)) (Array.range 0) = #[] := by apply Array.ext' ; simp
  rw [hem]
  rfl
/-- A slice literal of nothing. -/
theorem gZ {fn : Func} {o : Oper} {t : TypeId} {d : Nat} (h : Hold H A L n m (.s ops fr LI (i :: is)) a w) (T : TypeId) (k : Nat) (ho : nthT ops i = some o) (hd : o.dst = some d) (e : gd m ops o.guard [] [] = some (true, [], [])) (hop : o.op = .buildSlice t 0 #[])
    (hn : ∀ g a' w', Hold H A (tRow T k (.slice (some ⟨g, 0, none⟩) 0 0) 0 [] :: L) n ((d, .slice (some ⟨g, 0, none⟩) 0 0) :: m) (.s ops fr LI is) a' w' → At Try.prog fn R ks (.s ops fr LI is) a' w')
    (hE : chkE Try.prog t T k (((Try.prog.info? T).map (·.bytes)).getD 0) = true := by kernel_rfl) (hm : memN fr i = false := by rfl) (hb : Nat.blt d n = true := by rfl) : At Try.prog fn R ks (.s ops fr LI (i :: is)) a w :=
  spG h [] ho hd e (run_bs0 hE hop w) (h.O.emptyRow T k) (h.J.ext (Ext.alloc w _)) (fun a' h' => hn _ a' _ h') hm trivial hb
end

theorem OwnT.graft {H : Nat} {A0 : World} {L1 L2 : List Thing} {w w' : World} (h : OwnT H A0 L1 w) (k : OwnT w.heap.size w L2 w') : OwnT H A0 (L2 ++ L1) w' := by
  have h1 := h.ext k.below
  refine ⟨h1.below, h1.size, Ths.of fun x hx => ?_, fun x hx i hi => ?_, List.pairwise_append.2 ⟨k.diff, h.diff, fun x hx y hy i hi hj => ?_⟩⟩
  · rcases List.mem_append.1 hx with hx | hx
    · exact k.all.mem hx
    · exact h1.all.mem hx
  · rcases List.mem_append.1 hx with hx | hx
    · have := k.high x hx i hi
      have := h.size
      omega
    · exact h.high x hx i hi
  · have := k.high x hx i hi
    have := h.lt hy hj
    omega

/-- A call through an interface at place i: the value, the method, arguments, slot. -/
def ivV (m : Mp) (ops : List Oper) (fr : List Nat) (i : Nat) (hs : List Ht) : Option (Value × String × List Value × Nat × List Prop) := match nthT ops i with
  | some ⟨some d, .call ⟨.invoke x nm, ⟨xs⟩, _⟩, _, _, _, g⟩ => match memN fr i with
    | true => none
    | false => match gd m ops g hs [] with
      | some (true, _, vc) => match opv m x with
        | some p => match ovs m xs with
          | some vs => some (p, nm, vs, d, vc)
          | none => none
        | none => none
      | _ => none
  | _ => none
section
variable {P : Program} {fn : Func} {R : Ending → World → Prop} {H n : Nat} {A : World} {m : Mp} {a : Act} {w : World} {ops : List Oper} {fr is : List Nat} {LI : List Thing} {ks : List Kf} {L : List Thing} {i : Nat} {vc : List Prop}
theorem run_inv {f : FuncId} {us : Array Value} {o : Oper} {x : Operand} {nm : String} {xs : List Operand} {ts : Array TypeId} {p : Value} {vs : List Value} {ρ : Operand → Value} (ho : o.op = .call ⟨.invoke x nm, ⟨xs⟩, ts⟩) (hx : ρ x = p) (hv : xs.map ρ = vs) (h : (callMethod p nm ⟨vs⟩).run P w = .ok (.enter f us) w) :
    (execOp ρ o).run P w = .ok (.enter f us) w := by
  unfold execOp
  simp only [ho, resolve, invoke, Sem.run_bind, Sem.run_pure, Result.andThen_ok, List.map_toArray, hx, hv]
  simpa using h
theorem gI {f : FuncId} {us : Array Value} {p : Value} {nm : String} {args : List Value} {d : Nat} {S : Ending → World → Prop} (h : Hold H A L n m (.s ops fr LI (i :: is)) a w) (e : ivV m ops fr i [] = some (p, nm, args, d, vc)) (hm : (callMethod p nm ⟨args⟩).run P w = .ok (.enter f us) w) (hc : Calls P f us w S)
    (hn : ∀ e w', S e w' → ∃ v, e = .returned v ∧ ∃ L', OwnT H A L' w' ∧ Ths w' LI ∧ ∀ a', Hold H A L' n ((d, v) :: m) (.s ops fr LI is) a' w' → At P fn R ks (.s ops fr LI is) a' w')
    (hv : AllP vc := by trivial) (hb : Nat.blt d n = true := by rfl) : At P fn R ks (.s ops fr LI (i :: is)) a w := by
  unfold ivV at e
  split at e
  case h_2 => cases e
  rename_i d' x nm' xs ts ty pos af g hi
  split at e
  case h_1 => cases e
  rename_i hmm
  split at e
  case h_2 => cases e
  rename_i hs' vc' hg
  split at e
  case h_2 => cases e
  rename_i p' hx
  split at e
  case h_2 => cases e
  rename_i vs hvs
  cases e
  obtain ⟨-, hw⟩ := Z4a (o := ⟨some d, .call ⟨.invoke x nm, ⟨xs⟩, ts⟩, ty, pos, af, g⟩) hg hv
  rw [Z0w] at hi
  have hi' : (⟨ops⟩ : Array Oper)[i]? = some ⟨some d, .call ⟨.invoke x nm, ⟨xs⟩, ts⟩, ty, pos, af, g⟩ := by simpa using hi
  have hrun := run_inv (P := P) (w := w) (o := ⟨some d, .call ⟨.invoke x nm, ⟨xs⟩, ts⟩, ty, pos, af, g⟩) (ρ := a.eval) rfl (h.M.opv _ _ hx) (Z63 h.M.opv _ _ hvs) hm
  refine ⟨_, hi', ?_⟩
  rw [hmm]
  unfold wpOp
  simp only [hi', hw a h.M, if_true]
  refine .inl (Z21 hrun hc fun e w'' hS => ?_)
  obtain ⟨v, he, L', hO, hI, hnx⟩ := hn e w'' hS
  exact ⟨v, he, hI, hnx _ ⟨hO, h.k.put _ _, h.M.put h.k hb v, hI⟩⟩
end
/-- Several ways come together at a place: what stands behind is shown once. -/
theorem joinG {P : Program} {fn : Func} {R : Ending → World → Prop} {H n : Nat} {A : World} {ks ks0 : List Kf} {pc pc0 : Pc} {a0 : Act} {w0 : World} (L : List Thing) (ml : Mp) (φ : Prop) (tail : ∀ m a w, Hold H A L n m pc a w → subM m ml → φ → At P fn R ks pc a w) (main : (∀ m a w, Hold H A L n m pc a w → subM m ml → φ → At P fn R ks pc a w) → At P fn R ks0 pc0 a0 w0) : At P fn R ks0 pc0 a0 w0 := main tail
/-- .. with the slots that are left. -/
theorem Hold.cut {H n : Nat} {A : World} {L : List Thing} {m ml : Mp} {pc : Pc} {a : Act} {w : World} (h : Hold H A L n m pc a w) (hs : subM m ml) : Hold H A L n ml pc a w := ⟨h.O, h.k, h.M.sub hs, h.J⟩
def stV (m : Mp) (ops : List Oper) (fr : List Nat) (i : Nat) : Option (TypeId × Value × Value) := match nthT ops i with
  | some ⟨none, .store t x y, _, _, _, g⟩ => match gd m ops g [] [] with
    | some (true, [], []) => match memN fr i with
      | false => match opv m x with
        | some p => match opv m y with
          | some v => some (t, p, v)
          | none => none
        | none => none
      | true => none
    | _ => none
  | _ => none
/-- A store beside things that stay. -/
theorem gU {fn : Func} {R : Ending → World → Prop} {H n : Nat} {A : World} {m : Mp} {a : Act} {w : World} {ops : List Oper} {fr is : List Nat} {LI : List Thing} {ks : List Kf} {L L' : List Thing} {i : Nat} {vc : List Prop} {t : TypeId} {p v : Value} {hs' : List Ht} (h : Hold H A L n m (.s ops fr LI (i :: is)) a w) (hs : List Ht) (e : stV m ops fr i = some (t, p, v)) (e2 : exSt tt L t p v hs [] = some (L', hs', vc)) (hI : ∀ w', OwnT H A L' w' → Ths w' LI)
    (hn : ∀ a w', Hold H A L' n m (.s ops fr LI is) a w' → At Try.prog fn R ks (.s ops fr LI is) a w')
    (hv : AllP vc := by (first | exact trivial | ((try simp only [AllP, inK, cellsAt, and_true, true_and]) <;> (repeat' apply And.intro) <;> first | exact trivial | omega | rfl | assumption | (simp; done) | (simp; omega)))) : At Try.prog fn R ks (.s ops fr LI (i :: is)) a w := by
  unfold stV at e
  split at e
  case h_2 => cases e
  rename_i t' x y ty pos af g hi
  split at e
  case h_2 => cases e
  rename_i hg
  split at e
  case h_2 => cases e
  rename_i hmm
  split at e
  case h_2 => cases e
  rename_i p' hx
  split at e
  case h_2 => cases e
  rename_i v' hy
  cases e
  obtain ⟨-, hst⟩ := Z79 (P := Try.prog) (o := ⟨none, .store t x y, ty, pos, af, g⟩) (x := x) (y := y) (H := H) (A := A) Z2t rfl e2 hv
  obtain ⟨w', hr, O'⟩ := hst a.eval w (h.M.opv _ _ hx) (h.M.opv _ _ hy) h.O
  exact suG (o := ⟨none, .store t x y, ty, pos, af, g⟩) h [] hi rfl hg hr O' (hI w' O') (fun a' hh => hn a' w' hh) hmm trivial
/-- The world as it was. -/
abbrev tAw (A : World) : Thing := tAll A none (fun _ _ h => by cases h)
section
variable {H : Nat} {A w : World} {L : List Thing}
theorem aw0 (w : World) : OwnT 0 w [tAw w] w := all0 w none _
theorem OwnT.withAw (h : OwnT A.heap.size A L w) : OwnT 0 A (L ++ [tAw A]) w := by
  refine ⟨⟨h.below.os, h.below.tape, h.below.output, h.below.size, fun i hi => by omega⟩, Nat.zero_le _, Ths.of fun x hx => ?_, fun _ _ _ _ => Nat.zero_le _, List.pairwise_append.2 ⟨h.diff, List.pairwise_singleton _ _, fun x hx y hy i hi hj => ?_⟩⟩
  · rcases List.mem_append.1 hx with hx | hx
    · exact h.all.mem hx
    · rw [List.mem_singleton.1 hx]
      exact ⟨h.size, fun i hi => h.below.block i hi⟩
  · rw [List.mem_singleton.1 hy] at hj
    have h1 := h.high x hx i hi
    have h2 := List.mem_range.1 (show i ∈ List.range A.heap.size from hj)
    omega
theorem OwnT.unAw (h : OwnT 0 A (L ++ [tAw A]) w) : OwnT A.heap.size A L w := by
  have hA : (tAw A).holds w := h.all.mem (by simp)
  have hd := List.pairwise_append.1 h.diff
  refine ⟨⟨h.below.os, h.below.tape, h.below.output, hA.1, fun i hi => hA.2 i hi⟩, hA.1, Ths.of fun x hx => h.all.mem (by simp [hx]), fun x hx i hi => ?_, hd.1⟩
  rcases Nat.lt_or_ge i A.heap.size with h1 | h1
  · exact absurd (List.mem_range.2 h1) (hd.2.2 x hx (tAw A) (by simp) i hi)
  · exact h1
theorem OwnT.awE (h : OwnT 0 A (L ++ [tAw A]) w) : Ext A w := h.unAw.below
end
end Go.Proofs.Ytbfgacmfjfbooaa
