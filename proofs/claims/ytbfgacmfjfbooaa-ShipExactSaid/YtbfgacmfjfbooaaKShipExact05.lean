/- The walks of strings.Builder's methods on the builder that lies in an octet.Writer of the call's own. -/
import Derived.Test.YtbfgacmfjfbooaaKShipExact03
import Derived.RegionTactic
import Derived.Test.YtbfgacmfjfbooaaKShipExact04
import Derived.Test.YtbfgacmfjfbooaaKShipExact00
import Derived.Laws.BitsAllLaws
import Derived.Lib.Strings
import Derived.Lib.SmallJoins
namespace Go.Proofs.Ytbfgacmfjfbooaa
set_option linter.unusedVariables false
set_option linter.unusedSimpArgs false
open Go.RowKit

/-- Block b is a Writer that holds the bytes l; its buffer is block g (none: it has none yet). 'p': what the builder's 'addr' holds. -/
def WrP (w : World) (b : Nat) (g : Option Nat) (p : Value) (l : List UInt8) : Prop :=
  ∃ v, w.heap[b]? = some (.cells #[p, v] 113 (0, 0)) ∧ w.ownsRowF 0 5 1 v l.length (Lib.byteCells l) ∧ v.ownBlock = g
def Wr (w : World) (b : Nat) (g : Option Nat) (l : List UInt8) : Prop := WrP w b g (.pointer none) l ∨ WrP w b g (.pointer (some ⟨b, 0, none⟩)) l

/-- Of what was there nothing has turned but block b and its buffer g; the buffer is now g', the old one or a new one. -/
structure Wrote (w : World) (b : Nat) (g g' : Option Nat) (w' : World) : Prop where
  os : w'.os = w.os
  tape : w'.tape = w.tape
  output : w'.output = w.output
  size : w.heap.size ≤ w'.heap.size
  block : ∀ k, k < w.heap.size → k ≠ b → some k ≠ g → w'.heap[k]? = w.heap[k]?
  own : g' = g ∨ ∃ k, g' = some k ∧ w.heap.size ≤ k

theorem Wrote.refl (w : World) (b : Nat) (g : Option Nat) : Wrote w b g g w := ⟨rfl, rfl, rfl, Nat.le_refl _, fun _ _ _ _ => rfl, .inl rfl⟩
theorem Wrote.trans {a c d : World} {b : Nat} {g g' g'' : Option Nat} (h : Wrote a b g g' c) (k : Wrote c b g' g'' d) : Wrote a b g g'' d := by
  refine ⟨k.os.trans h.os, k.tape.trans h.tape, k.output.trans h.output, Nat.le_trans h.size k.size, fun i hi hb hg => ?_, ?_⟩
  · refine (k.block i (Nat.lt_of_lt_of_le hi h.size) hb ?_).trans (h.block i hi hb hg)
    rcases h.own with rfl | ⟨j, rfl, hj⟩
    · exact hg
    · intro e
      injection e with e
      omega
  · rcases k.own with rfl | ⟨j, rfl, hj⟩
    · exact h.own
    · exact .inr ⟨j, rfl, Nat.le_trans h.size hj⟩
theorem Wrote.drew {a c : World} {b : Nat} {g g' : Option Nat} (h : Wrote a b g g' c) : Wrote a b g g' c.drew := ⟨h.os, h.tape, h.output, h.size, h.block, h.own⟩
/-- Both the writer and its buffer lie from B on: below B nothing has turned. -/
theorem Wrote.below {A w w' : World} {B b : Nat} {g g' : Option Nat} (h : Wrote w b g g' w') (hA : Below B A w) (hB : B ≤ w.heap.size) (hb : B ≤ b) (hg : ∀ k, g = some k → B ≤ k) : Below B A w' :=
  hA.trans ⟨h.os, h.tape, h.output, h.size, fun k hk => h.block k (by omega) (by omega) (fun e => by have := hg k e.symm; omega)⟩
theorem Wrote.own_from {w w' : World} {B b : Nat} {g g' : Option Nat} (h : Wrote w b g g' w') (hB : B ≤ w.heap.size) (hg : ∀ k, g = some k → B ≤ k) : ∀ k, g' = some k → B ≤ k := by
  intro k hk
  rcases h.own with e | ⟨j, e, hj⟩
  · exact hg k (e ▸ hk)
  · rw [hk] at e; injection e with e; omega

theorem WrP.lt {w : World} {b : Nat} {g : Option Nat} {p : Value} {l : List UInt8} (h : WrP w b g p l) : b < w.heap.size := by
  obtain ⟨v, hb, _⟩ := h
  exact Blk.lt hb
theorem WrP.ne {w : World} {b : Nat} {g : Option Nat} {p : Value} {l : List UInt8} (h : WrP w b g p l) : g ≠ some b := by
  obtain ⟨v, hb, hown, rfl⟩ := h
  exact Lib.ownBlock_neF hown hb (by decide)
theorem WrP.own_lt {w : World} {b : Nat} {g : Option Nat} {p : Value} {l : List UInt8} (h : WrP w b g p l) : ∀ k, g = some k → k < w.heap.size := by
  obtain ⟨v, hb, hown, rfl⟩ := h
  exact fun k hk => (hown.lt k hk).2
/-- Kept where neither block has turned. -/
theorem WrP.keep {w w' : World} {b : Nat} {g : Option Nat} {p : Value} {l : List UInt8} (h : WrP w b g p l) (hb : w'.heap[b]? = w.heap[b]?) (hg : ∀ k, g = some k → w'.heap[k]? = w.heap[k]?) : WrP w' b g p l := by
  obtain ⟨v, h1, h2, h3⟩ := h
  refine ⟨v, hb.trans h1, ⟨h2.1, ?_⟩, h3⟩
  rcases h2.2 with hn | ⟨g', cap, cur, fz, rfl, hbg, hgg, rest⟩
  · exact .inl hn
  · exact .inr ⟨g', cap, cur, fz, rfl, hbg, (hg g' (by rw [← h3]; rfl)).trans hgg, rest⟩
theorem Wr.lt {w : World} {b : Nat} {g : Option Nat} {l : List UInt8} (h : Wr w b g l) : b < w.heap.size := h.elim WrP.lt WrP.lt
theorem Wr.ne {w : World} {b : Nat} {g : Option Nat} {l : List UInt8} (h : Wr w b g l) : g ≠ some b := h.elim WrP.ne WrP.ne
theorem Wr.own_lt {w : World} {b : Nat} {g : Option Nat} {l : List UInt8} (h : Wr w b g l) : ∀ k, g = some k → k < w.heap.size := h.elim WrP.own_lt WrP.own_lt
theorem Wr.keep {w w' : World} {b : Nat} {g : Option Nat} {l : List UInt8} (h : Wr w b g l) (hb : w'.heap[b]? = w.heap[b]?) (hg : ∀ k, g = some k → w'.heap[k]? = w.heap[k]?) : Wr w' b g l :=
  h.elim (fun h => .inl (h.keep hb hg)) (fun h => .inr (h.keep hb hg))
theorem Wr.drew {w : World} {b : Nat} {g : Option Nat} {l : List UInt8} (h : Wr w b g l) : Wr w.drew b g l := h
theorem Wr.alloc {w : World} {b : Nat} {g : Option Nat} {l : List UInt8} (h : Wr w b g l) (o : Obj) : Wr (w.alloc o) b g l :=
  h.keep (Below.heap_alloc w o b h.lt) (fun k hk => Below.heap_alloc w o k (h.own_lt k hk))
theorem Wr.below {w w' : World} {b : Nat} {g : Option Nat} {l : List UInt8} (h : Wr w b g l) (hb : Below w.heap.size w w') : Wr w' b g l :=
  h.keep (hb.block b h.lt) (fun k hk => hb.block k (h.own_lt k hk))
/-- Another writer's deed. -/
theorem Wr.other {w w' : World} {b b2 : Nat} {g g2 g3 : Option Nat} {l : List UInt8} (h : Wr w b g l) (k : Wrote w b2 g2 g3 w') (hb : b ≠ b2) (hg : g2 ≠ some b) (hb2 : g ≠ some b2) (hgg : g ≠ g2 ∨ g = none) : Wr w' b g l :=
  h.keep (k.block b h.lt hb (fun e => hg e.symm)) (fun j hj => k.block j (h.own_lt j hj) (fun e => hb2 (by rw [hj, e])) (fun e => by
    rcases hgg with hh | hh
    · exact hh (by rw [hj, e])
    · rw [hh] at hj; cases hj))
/-- A new, empty writer. -/
theorem Wr.new_ {w : World} {b : Nat} (hb : b = w.heap.size) : Wr (w.alloc (.cells #[.pointer none, .slice none 0 0] 113)) b none [] :=
  .inl ⟨.slice none 0 0, blk_new hb, ⟨rfl, .inl ⟨rfl, rfl⟩⟩, rfl⟩

theorem sizeB : (Try.prog.info? 111).map (·.size) = some 2 := by kernel_rfl
theorem liesB : liesAt Try.prog Try.prog.depth 113 (2 / Try.prog.cellsOf 113) 0 111 1 = true := by kernel_rfl
theorem infoByte : (Try.prog.info? 5).map (fun i => (i.zero, i.size, i.bytes)) = some (some (.int .u8 0), 1, 1) := by kernel_rfl
theorem cellsByte : Try.prog.cellsOf 5 = 1 := by kernel_rfl

set_option maxHeartbeats 1000000 in
set_option maxRecDepth 100000 in
theorem Z3o (b : Nat) (w : World) (h0 : w.cell? ⟨b, 0, none⟩ = some (.pointer (some ⟨b, 0, none⟩))) :
    Calls Try.prog 86 #[.pointer (some ⟨b, 0, none⟩)] w fun e w' => e = .returned (.tuple #[]) ∧ w' = w := by
  obtain ⟨j, hj, _⟩ := Option.map_eq_some_iff.1 sizeB
  go_enter Try.func86, Try.ntmps86
  go_wp2
  rw [Lib.run_neq_ptr_same w _ Try.underlying109 hj]
  go_wp2
  go_end0
  exact ⟨rfl, rfl⟩

set_option maxHeartbeats 1000000 in
set_option maxRecDepth 100000 in
theorem Z3l (b : Nat) (w : World) (h0 : w.cell? ⟨b, 0, none⟩ = some (.pointer none)) (hsh : w.shape? b = some (113, 2)) (hfz : w.frozen? ⟨b, 0, none⟩ = false) :
    Calls Try.prog 86 #[.pointer (some ⟨b, 0, none⟩)] w fun e w' => e = .returned (.tuple #[]) ∧ w' = w.setCell ⟨b, 0, none⟩ (.pointer (some ⟨b, 0, none⟩)) := by
  obtain ⟨j, hj, hjs⟩ := Option.map_eq_some_iff.1 sizeB
  go_enter Try.func86, Try.ntmps86
  go_wp2
  rw [Lib.run_to_unsafe w ⟨b, 0, none⟩ Try.underlying109 Try.underlying190 hj (by rw [hjs]; decide) hsh (Nat.zero_lt_succ 1)]
  simp only [Result.andThen]
  rw [Oper.upon_value]
  go_wp2
  rw [run_callFunc_extern Try.func106 (by kernel_rfl) (by kernel_rfl) (by kernel_rfl) (e := Extern.AbiNoEscape.same) (by kernel_rfl)]
  rw [Lib.run_noEscape]
  simp only [Result.andThen]
  rw [Oper.upon_value]
  go_wp2
  rw [Lib.run_from_unsafe w ⟨b, 0, none⟩ Try.underlying190 Try.underlying109 hj hsh liesB]
  simp only [Result.andThen]
  rw [Oper.upon_value]
  go_wp2
  go_end0
  exact ⟨rfl, rfl⟩

theorem Z7w {w : World} {b : Nat} {g : Option Nat} (i : Nat) (u : Value) : Wrote w b g g (w.setCell ⟨b, i, none⟩ u) :=
  ⟨rfl, rfl, rfl, by simp [World.setCell], fun k _ hk _ => Below.heap_setCell _ _ _ _ hk, .inl rfl⟩

theorem Z2a (b : Nat) (g : Option Nat) (l : List UInt8) (w : World) (h : Wr w b g l) :
    Calls Try.prog 86 #[.pointer (some ⟨b, 0, none⟩)] w fun e w' => e = .returned (.tuple #[]) ∧ WrP w' b g (.pointer (some ⟨b, 0, none⟩)) l ∧ Wrote w b g g w' := by
  rcases h with h | h
  · have hne := h.ne
    have h' := h
    obtain ⟨v, hb, hown, hg⟩ := h
    refine (Z3l b w (Blk.cell hb 0) (by simp [World.shape?, hb]) (Blk.frozen hb 0)).mono ?_
    rintro e w' ⟨rfl, rfl⟩
    refine ⟨rfl, ⟨v, Blk.set_ hb 0 _, ?_, hg⟩, Z7w 0 _⟩
    refine hown.kept (row := some b) ⟨rfl, rfl, rfl, by simp [World.setCell], fun k _ hk => Below.heap_setCell _ _ _ _ (fun e => hk (by simp [e]))⟩ (.inr (by rw [hg]; exact hne))
  · have h' := h
    obtain ⟨v, hb, hown, hg⟩ := h
    refine (Z3o b w (Blk.cell hb 0)).mono ?_
    rintro e w' ⟨rfl, rfl⟩
    exact ⟨rfl, h', Wrote.refl _ _ _⟩

theorem Z2v (a b : List UInt8) : Lib.byteCells (a ++ b) = Lib.byteCells a ++ Lib.byteCells b := by simp [Lib.byteCells]

/-- Behind an append the new buffer is stored into the writer. -/
theorem Z6i {w1 w2 : World} {b : Nat} {g : Option Nat} {v v' p : Value} {l' : List UInt8} (hb : w1.heap[b]? = some (.cells #[p, v] 113 (0, 0))) (hv : v.ownBlock = g) (hne : g ≠ some b)
    (hown : w2.ownsRowF 0 5 1 v' l'.length (Lib.byteCells l')) (hgrow : w1.grownBy w2 v.ownBlock) (hf : v'.ownBlock = v.ownBlock ∨ ∃ k, v'.ownBlock = some k ∧ w1.heap.size ≤ k) :
    WrP (w2.setCell ⟨b, 1, none⟩ v') b v'.ownBlock p l' ∧ Wrote w1 b g v'.ownBlock (w2.setCell ⟨b, 1, none⟩ v') := by
  have hlt : b < w1.heap.size := Blk.lt hb
  have hb2 : w2.heap[b]? = some (.cells #[p, v] 113 (0, 0)) := (hgrow.block b hlt (fun e => hne (by rw [← hv, e]))).trans hb
  have hne' : v'.ownBlock ≠ some b := Lib.ownBlock_neF hown hb2 (by decide)
  refine ⟨⟨v', Blk.set_ hb2 1 v', ?_, rfl⟩, ⟨hgrow.os, hgrow.tape, hgrow.output, by simpa [World.setCell] using hgrow.size, fun k hk hkb hkg => ?_, ?_⟩⟩
  · exact hown.kept (row := some b) ⟨rfl, rfl, rfl, by simp [World.setCell], fun k _ hk => Below.heap_setCell _ _ _ _ (fun e => hk (by simp [e]))⟩ (.inr hne')
  · exact (Below.heap_setCell _ _ _ _ hkb).trans (hgrow.block k hk (by rw [hv]; exact hkg))
  · rw [hv] at hf
    exact hf

set_option maxHeartbeats 2000000 in
set_option maxRecDepth 100000 in
theorem Z36 (b : Nat) (g : Option Nat) (l : List UInt8) (s : ByteArray) (w : World) (h : Wr w b g l) (hlen : l.length + s.size ≤ 140737488355328) :
    Calls Try.prog 70 #[.pointer (some ⟨b, 0, none⟩), .string s] w fun e w' => e = .returned (.tuple #[.int .i64 s.size, .nilIface]) ∧ ∃ g', WrP w' b g' (.pointer (some ⟨b, 0, none⟩)) (l ++ s.data.toList) ∧ Wrote w b g g' w' := by
  obtain ⟨i0, hi, hz0, hz1, hz2⟩ := info_parts infoByte
  have hne := h.ne
  go_enter Try.func70, Try.ntmps70
  go_wp2_with fail
  refine (Z2a b g l _ h).mono ?_
  rintro e w1 ⟨rfl, h1, k1⟩
  obtain ⟨v, hbk, hown, hg⟩ := h1
  have Hg := Lib.hid hg
  clear hg
  have c0 : w1.cell? ⟨b, 0, none⟩ = some (.pointer (some ⟨b, 0, none⟩)) := Blk.cell hbk 0
  have c1 : w1.cell? ⟨b, 1, none⟩ = some v := Blk.cell hbk 1
  go_wp2_with (at_builtin; refine Z48 _ rfl _ _ 69 9 rfl 0 5 i0 Try.underlying69 Try.underlying9 hi hz0 hz1 hz2 _ _ _ rfl hown s rfl ?c3 ?c4 ?c5 ?_)
  case c3 => unfold maxLen; omega
  case c4 => omega
  case c5 => omega
  intro v' w2 hown' hgrow hfr
  rw [show Lib.strCells s = Lib.byteCells s.data.toList from rfl, ← Z2v] at hown'
  have hown2 : w2.ownsRowF 0 5 1 v' (l ++ s.data.toList).length (Lib.byteCells (l ++ s.data.toList)) := by simpa using hown'
  have hb2 : w2.heap[b]? = some (.cells #[.pointer (some ⟨b, 0, none⟩), v] 113 (0, 0)) := (hgrow.block b (Blk.lt hbk) (fun e => hne (by rw [← Hg.out, e]))).trans hbk
  have d1 : w2.cell? ⟨b, 1, none⟩ = some v := Blk.cell hb2 1
  have f1 : w2.frozen? ⟨b, 1, none⟩ = false := Blk.frozen hb2 1
  obtain ⟨k2, k3⟩ := Z6i hbk Hg.out hne hown2 hgrow hfr
  have hex : ∃ ao n' cap, v' = .slice ao n' cap := by
    rcases hown'.2 with ⟨hv, _⟩ | ⟨g, cap, cur, fz, hv, _⟩
    · exact ⟨_, _, _, hv⟩
    · exact ⟨_, _, _, hv⟩
  obtain ⟨ao, n', cap, rfl⟩ := hex
  clear hown' hown2 hgrow hfr hown
  have K2 := Lib.hid k2
  have K3 := Lib.hid (k1.trans k3)
  clear k1 k2 k3
  go_wp2
  go_ret2
  exact ⟨rfl, _, K2.out, K3.out⟩

set_option maxHeartbeats 2000000 in
set_option maxRecDepth 100000 in
theorem Z47 (b : Nat) (g : Option Nat) (l : List UInt8) (c : UInt8) (w : World) (h : Wr w b g l) (hlen : l.length + 1 ≤ 140737488355328) :
    Calls Try.prog 74 #[.pointer (some ⟨b, 0, none⟩), .int .u8 c.toNat] w fun e w' => e = .returned .nilIface ∧ ∃ g', WrP w' b g' (.pointer (some ⟨b, 0, none⟩)) (l ++ [c]) ∧ Wrote w b g g' w' := by
  obtain ⟨i0, hi, hz0, hz1, hz2⟩ := info_parts infoByte
  have hne := h.ne
  go_enter Try.func74, Try.ntmps74
  go_wp2_with fail
  refine (Z2a b g l _ h).mono ?_
  rintro e w1 ⟨rfl, h1, k1⟩
  obtain ⟨v, hbk, hown, hg⟩ := h1
  have Hg := Lib.hid hg
  clear hg
  have c0 : w1.cell? ⟨b, 0, none⟩ = some (.pointer (some ⟨b, 0, none⟩)) := Blk.cell hbk 0
  have c1 : w1.cell? ⟨b, 1, none⟩ = some v := Blk.cell hbk 1
  go_wp2_with (at_builtin; refine Z1m _ rfl _ _ 69 rfl 0 5 i0 (.int .u8 0) 1 1 Try.underlying69 hi hz0 hz1 hz2 rfl (by decide) _ _ _ rfl (hown.alloc _) ⟨w1.heap.size, 0, none⟩ 1 1 [.int .u8 c.toNat] rfl rfl ?c1 ?c2 ?c3 ?c4 ?c5 ?_)
  case c1 =>
    intro j u hj
    match j, hj with
    | 0, hj => simp at hj; subst hj; simp [Addr.add]
  case c2 => intro u hu; simp at hu; subst hu; rfl
  case c3 => unfold maxLen; omega
  case c4 => omega
  case c5 => simp
  intro v' w2 hown' hgrow hfr
  have hown2 : w2.ownsRowF 0 5 1 v' (l ++ [c]).length (Lib.byteCells (l ++ [c])) := by simpa [Lib.byteCells] using hown'
  have hgrow' : w1.grownBy w2 v.ownBlock := ⟨hgrow.os, hgrow.tape, hgrow.output, by have := hgrow.size; (try simp at this); omega, fun k hk hne => (hgrow.block k (by (try simp); omega) hne).trans (Below.heap_alloc w1 _ k hk)⟩
  have hfr' : v'.ownBlock = v.ownBlock ∨ ∃ k, v'.ownBlock = some k ∧ w1.heap.size ≤ k := by
    rcases hfr with e | ⟨k, e, hk⟩
    · exact .inl e
    · exact .inr ⟨k, e, by (try simp at hk); omega⟩
  have hb2 : w2.heap[b]? = some (.cells #[.pointer (some ⟨b, 0, none⟩), v] 113 (0, 0)) := (hgrow'.block b (Blk.lt hbk) (fun e => hne (by rw [← Hg.out, e]))).trans hbk
  have d1 : w2.cell? ⟨b, 1, none⟩ = some v := Blk.cell hb2 1
  have f1 : w2.frozen? ⟨b, 1, none⟩ = false := Blk.frozen hb2 1
  obtain ⟨k2, k3⟩ := Z6i hbk Hg.out hne hown2 hgrow' hfr'
  have hex : ∃ ao n' cap, v' = .slice ao n' cap := by
    rcases hown'.2 with ⟨hv, _⟩ | ⟨g, cap, cur, fz, hv, _⟩
    · exact ⟨_, _, _, hv⟩
    · exact ⟨_, _, _, hv⟩
  obtain ⟨ao, n', cap, rfl⟩ := hex
  clear hown' hown2 hgrow hgrow' hfr hfr' hown
  have K2 := Lib.hid k2
  have K3 := Lib.hid (k1.trans k3)
  clear k1 k2 k3
  go_wp2
  go_ret
  exact ⟨rfl, _, K2.out, K3.out⟩

theorem Z2q {w : World} {b k : Nat} (n : Nat) : Wrote w b (some k) (some k) (w.freeze ⟨k, 0, none⟩ n) := by
  unfold World.freeze
  split
  · exact Wrote.refl _ _ _
  · exact ⟨rfl, rfl, rfl, by simp, fun i _ _ hi => by
      simp only [Array.getElem?_modify]
      rw [if_neg (fun e => hi (by rw [e]))], .inl rfl⟩

/-- String of a writer that holds at least one byte. -/
theorem Z5t (b : Nat) (g : Option Nat) (l : List UInt8) (w : World) (h : Wr w b g l) (h0 : l ≠ []) :
    Calls Try.prog 72 #[.pointer (some ⟨b, 0, none⟩)] w fun e w' => e = .returned (.string ⟨l.toArray⟩) ∧ Wr w' b g l ∧ Wrote w b g g w' := by
  obtain ⟨p, hp, v, hbk, hown, hg⟩ : ∃ p, (p = .pointer none ∨ p = .pointer (some ⟨b, 0, none⟩)) ∧ WrP w b g p l := by
    rcases h with h | h
    · exact ⟨_, .inl rfl, h⟩
    · exact ⟨_, .inr rfl, h⟩
  have hne := h.ne
  have hl0 : l.length ≠ 0 := by simpa using h0
  obtain ⟨k, cap, cur, fz, rfl, _, hk, hfz, hnc, hcm, hcs, htake⟩ : ∃ k cap cur fz, v = .slice (some ⟨k, 0, none⟩) l.length cap ∧ 0 ≤ k ∧ w.heap[k]? = some (.cells cur 5 fz) ∧ fz.2 ≤ l.length * 1 ∧ l.length ≤ cap ∧ cap ≤ maxLen ∧ cur.size = cap * 1 ∧ cur.toList.take (l.length * 1) = Lib.byteCells l := by
    rcases hown.2 with ⟨_, hz⟩ | ⟨g, cap, cur, fz, hv, r⟩
    · exact absurd hz hl0
    · exact ⟨g, cap, cur, fz, hv, r⟩
  have c1 : w.drew.cell? ⟨b, 1, none⟩ = some (.slice (some ⟨k, 0, none⟩) l.length cap) := Blk.cell (w := w.drew) hbk 1
  have hSD : (Builtin.unsafeSliceData_ #[69] 168 #[.slice (some ⟨k, 0, none⟩) l.length cap]).run Try.prog w.drew = .ok (.pointer (some ⟨k, 0, none⟩)) w.drew :=
    Lib.run_unsafeSliceData_row _ _ _ _ _ _ (by omega)
  have hUS : (Builtin.unsafeString_ #[168, 3] 9 #[.pointer (some ⟨k, 0, none⟩), .int .i64 l.length]).run Try.prog w.drew = .ok (.string ⟨l.toArray⟩) (w.drew.freeze ⟨k, 0, none⟩ l.length) := by
    refine Lib.run_unsafeString_row w.drew 168 3 9 5 Try.underlying168 cellsByte k cur.size (by have hg' : w.drew.heap[k]? = some (.cells cur 5 fz) := hk; simp [World.shape?, hg']) l h0 (by omega) (by unfold maxLen at hcm; omega) ?_
    intro j x hx
    have := hown.cells (g := k) rfl j (.int .u8 x.toNat) (by simp [Lib.byteCells, hx])
    exact this
  have hg' : g = some k := by rw [← hg]; rfl
  have hkeep : Wr (w.drew.freeze ⟨k, 0, none⟩ l.length) b g l := by
    have hA : Lib.BuilderAtF 113 5 0 b p (Lib.byteCells l) w.drew := ⟨Nat.zero_le _, _, hbk, by rw [Lib.byteCells_length]; exact hown, by rw [hg]; exact hne⟩
    have hF := hA.froze (g := k) (cap := cap) (by rw [Lib.byteCells_length]; exact c1)
    rw [Lib.byteCells_length] at hF
    obtain ⟨_, v, x1, x2, _⟩ := hF
    have hv : v = .slice (some ⟨k, 0, none⟩) l.length cap := by
      have y := Blk.cell (w := w.drew.freeze ⟨k, 0, none⟩ l.length) x1 1
      have hbb : (w.drew.freeze ⟨k, 0, none⟩ l.length).heap[b]? = w.heap[b]? := (Z2q (w := w.drew) (b := k) (k := k) l.length).block b (by have := h.lt; simpa using this) (fun e => hne (by rw [hg', e])) (fun e => hne (by rw [hg', ← e]))
      rw [hbb, hbk] at x1
      injection x1 with x1
      injection x1 with x1
      simp at x1
      exact x1.symm
    subst hv
    rw [Lib.byteCells_length] at x2
    rcases hp with rfl | rfl
    · exact .inl ⟨_, x1, x2, hg⟩
    · exact .inr ⟨_, x1, x2, hg⟩
  have hW : Wrote w b g g (w.drew.freeze ⟨k, 0, none⟩ l.length) := by
    rw [hg']
    exact (Wrote.refl w b (some k)).drew.trans (Z2q _)
  have HK := Lib.hid hkeep
  have HW := Lib.hid hW
  clear hkeep hW hg hg'
  go_enter Try.func72, Try.ntmps72
  go_wp2
  go_region
  all_goals (go_wp2; go_ret; exact ⟨rfl, HK.out, HW.out⟩)

def clampSize (n : Int) : Nat := (min (max n 1) 8).toNat

theorem u8_of (m : Nat) : IntKind.u8.wrap (m : Int) = ((UInt8.ofNat m).toNat : Int) := by
  simp [IntKind.wrap, IntKind.bits, IntKind.signed]

theorem Z4s (n : Int) (w : World) : Calls Try.prog 73 #[.int .i64 n] w fun e w' => e = .returned (.int .i64 (clampSize n)) ∧ w = w' := by
  go_enter Try.func73, Try.ntmps73
  by_cases h0 : n < 1
  · go_wp2
    all_goals
      go_ret
      exact ⟨Z0s (by unfold clampSize; omega), rfl⟩
  · by_cases h8 : 8 < n
    · go_wp2
      all_goals
        go_ret
        exact ⟨Z0s (by unfold clampSize; omega), rfl⟩
    · go_wp2
      all_goals
        go_ret
        exact ⟨Z0s (by unfold clampSize; omega), rfl⟩

theorem Z6l (b : Nat) (g : Option Nat) (l : List UInt8) (s : ByteArray) (w : World) (h : Wr w b g l) (hlen : l.length + s.size ≤ 140737488355328) :
    Calls Try.prog 45 #[.pointer (some ⟨b, 0, none⟩), .string s] w fun e w' => e = .returned (.tuple #[]) ∧ ∃ g', Wr w' b g' (l ++ s.data.toList) ∧ Wrote w b g g' w' := by
  go_enter Try.func45, Try.ntmps45
  go_wp2_with fail
  refine (Z36 b g l s _ h hlen).mono ?_
  rintro e w1 ⟨rfl, g1, h1, k1⟩
  go_wp2_with fail
  go_end0
  exact ⟨rfl, g1, .inr h1, k1⟩

theorem Z2s (b : Nat) (g : Option Nat) (l : List UInt8) (w : World) (h : Wr w b g l) (h0 : l ≠ []) :
    Calls Try.prog 47 #[.pointer (some ⟨b, 0, none⟩)] w fun e w' => e = .returned (.string ⟨l.toArray⟩) ∧ Wr w' b g l ∧ Wrote w b g g w' := by
  go_enter Try.func47, Try.ntmps47
  go_wp2_with fail
  refine (Z5t b g l _ h h0).mono ?_
  rintro e w1 ⟨rfl, h1, k1⟩
  go_wp2_with fail
  go_ret
  exact ⟨rfl, h1, k1⟩

set_option maxHeartbeats 1000000 in
theorem Z5x (b : Nat) (g : Option Nat) (l : List UInt8) (n : Nat) (size : Int) (w : World) (hn : n < 18446744073709551616) (h : Wr w b g l) (hlen : l.length + 8 ≤ 140737488355328) :
    Calls Try.prog 44 #[.pointer (some ⟨b, 0, none⟩), .int .u64 n, .int .i64 size] w fun e w' => e = .returned (.tuple #[]) ∧ ∃ g', Wr w' b g' (l ++ le n (clampSize size)) ∧ Wrote w b g g' w' := by
  have hk8 : clampSize size ≤ 8 := by unfold clampSize; omega
  go_enter Try.func44, Try.ntmps44
  go_wp2_with fail
  refine (Z4s _ _).mono ?_
  rintro e w1 ⟨rfl, rfl⟩
  generalize hk : clampSize size = k at hk8 ⊢
  have Hk := Lib.hid hk
  clear hk
  go_wp2_with fail
  go_loopw [1, 10] (fun m i wr => ∃ (j M : Nat) (gj : Option Nat), j ≤ k ∧ m = .int .u64 M ∧ i = .int .i64 j ∧ Hid (M = n / 256 ^ j) ∧ M < 18446744073709551616 ∧ Wr wr b gj (l ++ le n j) ∧ Wrote w b g gj wr) (fun _ i _ => k - (intOf i).toNat)
  case atStart => exact ⟨0, n, g, by omega, rfl, rfl, by simp [Hid], hn, by simpa [le] using h, Wrote.refl _ _ _⟩
  case round =>
    obtain ⟨j, M, gj, hj, rfl, rfl, hM, hM1, hW, hR⟩ := hrel
    clear h
    by_cases hlt : j < k
    · have e1 := u8_of M
      go_wp2_with fail
      refine (Z47 b gj (l ++ le n j) (UInt8.ofNat M) _ hW (by rw [List.length_append, Z01]; omega)).mono ?_
      rintro e w2 ⟨rfl, g2, h2, k2⟩
      clear e1
      go_wp2_with fail
      go_roundw
      case rel =>
        refine ⟨j + 1, M / 256, g2, by omega, by go_num, by go_num, ?_, by omega, ?_, hR.trans k2⟩
        · show M / 256 = n / 256 ^ (j + 1)
          rw [hM.out, Nat.div_div_eq_div_mul, Nat.pow_succ]
        · rw [le, ← List.append_assoc, ← hM.out]
          exact .inr h2
      case measure => simp [intOf]; omega
    · obtain rfl : j = k := by omega
      go_wp2_with fail
      go_end0
      exact ⟨rfl, gj, by rw [Hk.out]; exact hW, hR⟩

theorem Z4o (c : Nat) (h : c < 4294967296) : bits .and .u32 (c : Int) 1 = ((c % 2 : Nat) : Int) := by
  have := u32_and_nat c 1 h (by decide)
  rw [Nat.and_one_is_mod] at this
  exact this
theorem Z2b (c d : Nat) (h : c < 4294967296) (hd : d < 4294967296) : bits .xor .u32 (c : Int) (d : Int) = ((c ^^^ d : Nat) : Int) := u32_xor_nat c d h hd

set_option maxHeartbeats 1000000 in
theorem step_any (c : Nat) (b : UInt8) (w : World) (hc : c < 4294967296) : Calls Try.prog 39 #[.int .u32 c, .int .u8 b.toNat] w fun e w' => e = .returned (.int .u32 (crcStep c b.toNat)) ∧ w = w' := by
  have hb := b.toNat_lt
  have e0 := Z2b c b.toNat hc (by omega)
  have hx : c ^^^ b.toNat < 4294967296 := Nat.xor_lt_two_pow (n := 32) hc (by omega)
  go_enter Try.func39, Try.ntmps39
  go_wp2_with fail
  go_loop [0, 9] (fun x i => ∃ (k X : Nat), k ≤ 8 ∧ i = .int .i64 k ∧ x = .int .u32 X ∧ X < 4294967296 ∧ Hid (X = crcIt k (c ^^^ b.toNat))) (fun _ i => 8 - (intOf i).toNat)
  case atStart => exact ⟨0, _, by omega, rfl, rfl, hx, rfl⟩
  case round =>
    obtain ⟨k, X, hk, rfl, rfl, hX, HX⟩ := hrel
    clear e0 hx
    by_cases hlt : k < 8
    · have e1 : bits .and .u32 (X : Int) 1 = (X : Int) % 2 := (Z4o X hX).trans (by omega)
      by_cases hp : X % 2 = 1
      · have e4 : ((X : Int) % 2 == 1) = true := by simp; omega
        obtain ⟨Y, hY⟩ : ∃ Y, Y = (X / 2) ^^^ 2197175160 := ⟨_, rfl⟩
        have hY1 : Y < 4294967296 := by rw [hY]; exact Nat.xor_lt_two_pow (n := 32) (by omega) (by decide)
        have e2 : bits .xor .u32 ((X : Int) / 2) 2197175160 = (Y : Int) := by
          rw [hY, ← Z2b (X / 2) 2197175160 (by omega) (by decide), show ((X / 2 : Nat) : Int) = (X : Int) / 2 by omega]
          rfl
        have HY := Lib.hid hY
        clear hY
        go_wp2_with fail
        go_round
        case rel =>
          refine ⟨k + 1, Y, by omega, by go_num, rfl, hY1, ?_⟩
          show Y = crcT (crcIt k (c ^^^ b.toNat))
          rw [← HX.out, crcT, if_pos hp, HY.out]
        case measure => simp [intOf]; omega
      · have e4 : ((X : Int) % 2 == 1) = false := by simp; omega
        go_wp2_with fail
        go_round
        case rel =>
          refine ⟨k + 1, X / 2, by omega, by go_num, by go_num, by omega, ?_⟩
          show X / 2 = crcT (crcIt k (c ^^^ b.toNat))
          rw [← HX.out, crcT, if_neg hp]
        case measure => simp [intOf]; omega
    · obtain rfl : k = 8 := by omega
      go_wp2_with fail
      go_ret
      exact ⟨Z0s (by rw [HX.out]; rfl), rfl⟩

theorem Z76 (s : ByteArray) (k : Nat) (h : k < s.size) : crcState 4294967295 (s.data.toList.take (k + 1)) = crcStep (crcState 4294967295 (s.data.toList.take k)) (s.data.toList.getD k 0).toNat := by
  have hl : k < s.data.toList.length := by simpa using h
  rw [List.take_succ_eq_append_getElem hl, Z3k]
  simp only [crcState, List.foldl_cons, List.foldl_nil, List.getD, List.getElem?_eq_getElem hl, Option.getD_some]

set_option maxRecDepth 10000 in
set_option maxHeartbeats 1000000 in
theorem Z2d (s : ByteArray) (w : World) (hs : s.size ≤ 140737488355328) :
    Calls Try.prog 18 #[.string s] w fun e w' => e = .returned (.int .u32 (crcSum s.data.toList)) ∧ Below w.heap.size w w' := by
  obtain ⟨C, c, fz, hcv, hC, hc1, hc2, hc3, hfz⟩ := Z44 s w (by unfold maxLen; omega)
  have hCell : ∀ i, i < s.size → (w.alloc (.cells C 5 fz)).cell? ⟨w.heap.size, i, none⟩ = some (.int .u8 ((s.data.toList.getD i 0).toNat : Int)) := by
    intro i hi
    have := (cell_of_row (w.alloc (.cells C 5 fz)) w.heap.size i C 5 fz (heap_alloc_new w _)).trans (hC i)
    rw [this, if_pos hi]
  have HC := Lib.hid hCell
  clear hC hc3 hfz hCell
  go_enter Try.func18, Try.ntmps18
  go_wp2_with fail
  go_loop [3, 5, 9] (fun x _ i => ∃ (k X : Nat), k ≤ s.size ∧ i = .int .i64 k ∧ x = .int .u32 X ∧ X < 4294967296 ∧ Hid (X = crcState 4294967295 (s.data.toList.take k))) (fun _ _ i => s.size - (intOf i).toNat)
  case atStart => exact ⟨0, 4294967295, by omega, rfl, rfl, by omega, by simp [Hid, crcState]⟩
  case round =>
    obtain ⟨k, X, hk, rfl, rfl, hX, HX⟩ := hrel
    by_cases hlt : k < s.size
    · have hcell := HC.out k hlt
      have HS := Lib.hid (Z76 s k hlt)
      generalize s.data.toList.getD k 0 = b at hcell HS
      go_wp2_with fail
      refine (step_any X b _ hX).mono ?_
      rintro e w1 ⟨rfl, rfl⟩
      go_wp2_with fail
      go_round
      case rel => exact ⟨k + 1, crcStep X b.toNat, by omega, by go_num, rfl, Z43 hX b.toNat_lt, by show _ = _; rw [HS.out, HX.out]⟩
      case measure => simp [intOf]; omega
    · obtain rfl : k = s.size := by omega
      have e1 : bits .xor .u32 (X : Int) 4294967295 = ((crcSum s.data.toList : Nat) : Int) := by
        have h1 := Z2b X 4294967295 hX (by decide)
        have h2 : X ^^^ 4294967295 = crcSum s.data.toList := by
          rw [HX.out, List.take_of_length_le (by simp)]; rfl
        rw [h2] at h1
        exact h1
      generalize hZ : crcSum s.data.toList = Z at e1 ⊢
      have HZ := Lib.hid hZ
      clear hZ
      go_wp2_with fail
      go_ret
      exact ⟨Z0s (by rw [HZ.out]), by (repeat (first | with_reducible exact Below.refl _ _ | with_reducible assumption | with_reducible apply Below.drew | with_reducible apply Z0b | (with_reducible refine Z0k ?_ ?_; focus ((try simp); (try omega); done)) | (with_reducible refine Z0l ?_ ?_; focus ((try simp); (try omega); done))))⟩

def sealL (l : List UInt8) : List UInt8 := l ++ le (crcSum l) 4
theorem Z2r (l : List UInt8) : (sealL l).length = l.length + 4 := by simp [sealL, Z01]

theorem Z6j {w w' : World} {b : Nat} {g g' : Option Nat} (h : Wrote w b g g' w') (hA : ∀ k, g = some k → b ≤ k) (hb : b ≤ w.heap.size) : ∀ k, g' = some k → b ≤ k := h.own_from hb hA

set_option maxHeartbeats 1000000 in
theorem Z6q (s : ByteArray) (w : World) (hs : s.size ≤ 1099511627776) :
    Calls Try.prog 46 #[.string s] w fun e w' => e = .returned (.string ⟨(sealL s.data.toList).toArray⟩) ∧ Below w.heap.size w w' := by
  have hsz : s.data.toList.length = s.size := by simp
  have Hsz := Lib.hid hsz
  clear hsz
  go_enter Try.func46, Try.ntmps46
  go_wp2_with fail
  have h0 : Wr (w.alloc (.cells #[.pointer none, .slice none 0 0] 113)) w.heap.size none [] := Wr.new_ rfl
  have b0 : Below w.heap.size w (w.alloc (.cells #[.pointer none, .slice none 0 0] 113)) := by (repeat (first | with_reducible exact Below.refl _ _ | with_reducible assumption | with_reducible apply Below.drew | with_reducible apply Z0b | (with_reducible refine Z0k ?_ ?_; focus ((try simp); (try omega); done)) | (with_reducible refine Z0l ?_ ?_; focus ((try simp); (try omega); done))))
  refine (Z6l w.heap.size none [] s _ h0 (by simp; omega)).mono ?_
  rintro e w1 ⟨rfl, g1, h1, k1⟩
  have r1 := Z6j k1 (fun k e => by cases e) (by simp)
  have b1 := k1.below b0 (by simp) (Nat.le_refl _) (fun k e => by cases e)
  have z1 := b1.size
  clear h0 b0 k1
  go_wp2_with fail
  refine (Z2d s _ (by omega)).mono ?_
  rintro e w2 ⟨rfl, hb2⟩
  have h2 := h1.below hb2
  have b2 : Below w.heap.size w w2 := b1.trans (hb2.mono z1)
  have z2 := b2.size
  clear h1 b1 hb2 z1
  have hlt := Z0q s.data.toList
  generalize hZ : crcSum s.data.toList = Z at hlt ⊢
  have HZ := Lib.hid hZ
  clear hZ
  go_wp2_with fail
  refine (Z5x w.heap.size g1 _ Z 4 _ (by omega) h2 (by rw [List.nil_append, Hsz.out]; omega)).mono ?_
  rintro e w3 ⟨rfl, g3, h3, k3⟩
  have r3 := Z6j k3 r1 z2
  have b3 := k3.below b2 z2 (Nat.le_refl _) r1
  have z3 := b3.size
  clear h2 k3 b2 z2
  have hne : [] ++ s.data.toList ++ le Z (clampSize 4) ≠ [] := by
    intro e
    have := congrArg List.length e
    rw [List.length_append, Z01, show clampSize 4 = 4 by decide] at this
    simp at this
  have HN := Lib.hid hne
  clear hne
  go_wp2_with fail
  refine (Z2s w.heap.size g3 _ _ h3 HN.out).mono ?_
  rintro e w4 ⟨rfl, h4, k4⟩
  have b4 := k4.below b3 z3 (Nat.le_refl _) r3
  clear h3 h4 k4 b3 z3 HN
  go_wp2_with fail
  go_ret
  exact ⟨by rw [← HZ.out]; rfl, b4⟩

set_option maxHeartbeats 1000000 in
theorem Z7e (s : ByteArray) (w : World) (hs : s.size < 4) :
    Calls Try.prog 49 #[.string s] w fun e w' => e = .returned (.tuple #[.string ⟨#[]⟩, .bool false]) ∧ Below w.heap.size w w' := by
  go_enter Try.func49, Try.ntmps49
  go_wp2_with fail
  go_ret2
  exact ⟨rfl, by (repeat (first | with_reducible exact Below.refl _ _ | with_reducible assumption | with_reducible apply Below.drew | with_reducible apply Z0b | (with_reducible refine Z0k ?_ ?_; focus ((try simp); (try omega); done)) | (with_reducible refine Z0l ?_ ?_; focus ((try simp); (try omega); done))))⟩

theorem Z0x (s : ByteArray) : (⟨s.data.toList.toArray⟩ : ByteArray) = s := by simp
theorem Z1o {q s : ByteArray} (h : q.data.toList = s.data.toList) : q = s := by rw [← Z0x q, h, Z0x]
theorem Z81 {q s : ByteArray} (h : ¬ q = s) : (q.toList == s.toList) = false := by
  rw [beq_eq_false_iff_ne, ByteArray.toList_eq, ByteArray.toList_eq]
  exact fun e => h (Z1o e)
theorem Z34 (s : ByteArray) (n : Nat) (h : n ≤ s.size) : (s.extract 0 n).data.toList = s.data.toList.take n := by
  have := Lib.extract_data s 0 n
  rw [this, List.drop_zero, Nat.sub_zero]
theorem cut_eq (s : ByteArray) (n : Nat) (h : n ≤ s.size) : s.extract 0 n = ⟨(s.data.toList.take n).toArray⟩ := by
  rw [← Z34 s n h, Z0x]

theorem Z6p (s q : ByteArray) (w : World) (hs : 4 ≤ s.size) (hs2 : s.size ≤ 1099511627776) (h : (⟨(sealL (s.data.toList.take (s.size - 4))).toArray⟩ : ByteArray) = q) :
    Calls Try.prog 46 #[.string (s.extract 0 (s.size - 4))] w fun e w' => e = .returned (.string q) ∧ Below w.heap.size w w' := by
  have := Z6q (s.extract 0 (s.size - 4)) w (by rw [ByteArray.size_extract]; omega)
  rw [Z34 s _ (by omega), h] at this
  exact this

set_option maxHeartbeats 1000000 in
theorem Z6x (s : ByteArray) (w : World) (hs : 4 ≤ s.size) (hs2 : s.size ≤ 1099511627776) (h : sealL (s.data.toList.take (s.size - 4)) = s.data.toList) :
    Calls Try.prog 49 #[.string s] w fun e w' => e = .returned (.tuple #[.string ⟨(s.data.toList.take (s.size - 4)).toArray⟩, .bool true]) ∧ Below w.heap.size w w' := by
  have H := Lib.hid (fun W => Z6p s s W hs hs2 (by rw [h, Z0x]))
  clear h
  go_enter Try.func49, Try.ntmps49
  go_wp2_with fail
  refine (H.out _).mono ?_
  rintro e w1 ⟨rfl, hb⟩
  go_wp2_with fail
  go_ret2
  exact ⟨by rw [← cut_eq s (s.size - 4) (by omega)]; rfl, hb⟩

set_option maxHeartbeats 1000000 in
theorem open_no (s : ByteArray) (w : World) (hs : 4 ≤ s.size) (hs2 : s.size ≤ 1099511627776) (h : ¬ sealL (s.data.toList.take (s.size - 4)) = s.data.toList) :
    Calls Try.prog 49 #[.string s] w fun e w' => e = .returned (.tuple #[.string ⟨#[]⟩, .bool false]) ∧ Below w.heap.size w w' := by
  obtain ⟨q, hq⟩ : ∃ q : ByteArray, (⟨(sealL (s.data.toList.take (s.size - 4))).toArray⟩ : ByteArray) = q := ⟨_, rfl⟩
  have hne : (q.toList == s.toList) = false := Z81 (fun e => h (by rw [e] at hq; have := congrArg (fun x : ByteArray => x.data.toList) hq; simpa using this))
  have H := Lib.hid (fun W => Z6p s q W hs hs2 hq)
  clear h hq
  go_enter Try.func49, Try.ntmps49
  go_wp2_with fail
  refine (H.out _).mono ?_
  rintro e w1 ⟨rfl, hb⟩
  go_wp2_with fail
  go_ret2
  exact ⟨rfl, hb⟩

theorem Z3z (s : ByteArray) (k : Nat) (h : k < s.size) : s[k] = s.data.toList.getD k 0 := by
  have hd : k < s.data.size := h
  have e : s[k] = s.data[k] := rfl
  rw [e]
  simp [List.getD, Array.getElem?_eq_getElem hd]

theorem bit_u32 (Y B j : Nat) (hY : Y < 4294967296) (hB : B < 256) : bits .xor .u32 (bits .and .u32 (Y : Int) 1) (bits .and .u32 ((B : Int) / 2 ^ j % 4294967296) 1) = (((Y ^^^ (B / 2 ^ j)) % 2 : Nat) : Int) := by
  have h1 : ((B : Int) / 2 ^ j % 4294967296) = ((B / 2 ^ j : Nat) : Int) := by
    have : B / 2 ^ j ≤ B := Nat.div_le_self _ _
    have e : ((B : Int) / 2 ^ j) = ((B / 2 ^ j : Nat) : Int) := by simp
    rw [e]
    generalize B / 2 ^ j = q at this ⊢
    omega
  have h2 : B / 2 ^ j < 4294967296 := by have : B / 2 ^ j ≤ B := Nat.div_le_self _ _; omega
  rw [h1, Z4o _ hY, Z4o _ h2, Z2b _ _ (by omega) (by omega), xor_par]
  rcases Nat.mod_two_eq_zero_or_one Y with hy | hy <;> rcases Nat.mod_two_eq_zero_or_one (B / 2 ^ j) with hb | hb <;> rw [hy, hb] <;> decide

set_option maxRecDepth 10000 in
set_option maxHeartbeats 1000000 in
theorem Z6t (s : ByteArray) (w : World) (hs : s.size ≤ 140737488355328) :
    Calls Try.prog 24 #[.string s] w fun e w' => e = .returned (.int .u32 (crcSum s.data.toList)) ∧ w = w' := by
  go_enter Try.func24, Try.ntmps24
  go_wp2_with fail
  go_loop [3, 4] (fun x i => ∃ (k X : Nat), k ≤ s.size ∧ i = .int .i64 k ∧ x = .int .u32 X ∧ X < 4294967296 ∧ Hid (X = crcState 4294967295 (s.data.toList.take k))) (fun _ i => s.size - (intOf i).toNat)
  case atStart => exact ⟨0, 4294967295, by omega, rfl, rfl, by omega, by simp [Hid, crcState]⟩
  case round =>
    obtain ⟨k, X, hk, rfl, rfl, hX, HX⟩ := hrel
    by_cases hlt : k < s.size
    · have HS := Lib.hid (Z76 s k hlt)
      have hb := (s.data.toList.getD k 0).toNat_lt
      go_wp2_with fail
      go_loop [3, 5] (fun x i => ∃ (j Y : Nat), j ≤ 8 ∧ i = .int .i64 j ∧ x = .int .u32 Y ∧ Y < 4294967296 ∧ Hid (Y ^^^ ((s.data.toList.getD k 0).toNat / 2 ^ j) = crcIt j (X ^^^ (s.data.toList.getD k 0).toNat))) (fun _ i => 8 - (intOf i).toNat)
      case atStart => exact ⟨0, X, by omega, rfl, rfl, hX, by simp [Hid, crcIt]⟩
      case round =>
        obtain ⟨j, Y, hj, rfl, rfl, hY, HY⟩ := hrel
        by_cases hlt2 : j < 8
        · have hbt := (s[k]'hlt).toNat_lt
          have eb := bit_u32 Y (s[k]'hlt).toNat j hY hbt
          have hkb : (s[k]'hlt).toNat = (s.data.toList.getD k 0).toNat := by rw [Z3z s k hlt]
          have hdj : (s.data.toList.getD k 0).toNat / 2 ^ j / 2 = (s.data.toList.getD k 0).toNat / 2 ^ (j + 1) := by rw [Nat.div_div_eq_div_mul, Nat.pow_succ]
          have HK := Lib.hid hkb
          have HD := Lib.hid hdj
          clear hkb hdj
          by_cases hp : (Y ^^^ ((s[k]'hlt).toNat / 2 ^ j)) % 2 = 1
          · rw [hp] at eb
            obtain ⟨Z, hZ⟩ : ∃ Z, Z = (Y / 2) ^^^ 2197175160 := ⟨_, rfl⟩
            have hZ1 : Z < 4294967296 := by rw [hZ]; exact Nat.xor_lt_two_pow (n := 32) (by omega) (by decide)
            have e2 : bits .xor .u32 ((Y : Int) / 2) 2197175160 = (Z : Int) := by
              rw [hZ, ← Z2b (Y / 2) 2197175160 (by omega) (by decide), show ((Y / 2 : Nat) : Int) = (Y : Int) / 2 by omega]
              rfl
            have HZ := Lib.hid hZ
            have HP := Lib.hid hp
            clear hZ hp
            go_wp2_with fail
            go_round
            case rel =>
              refine ⟨j + 1, Z, by omega, by go_num, rfl, hZ1, ?_⟩
              have hp := HP.out
              rw [HK.out] at hp
              show Z ^^^ ((s.data.toList.getD k 0).toNat / 2 ^ (j + 1)) = crcT (crcIt j (X ^^^ (s.data.toList.getD k 0).toNat))
              rw [← HY.out, crcT, if_pos hp, HZ.out, Z6d, HD.out, Nat.xor_assoc, Nat.xor_assoc, Nat.xor_comm 2197175160]
            case measure => simp [intOf]; omega
          · have hp0 : (Y ^^^ ((s[k]'hlt).toNat / 2 ^ j)) % 2 = 0 := by omega
            rw [hp0] at eb
            have HP := Lib.hid hp
            clear hp hp0
            go_wp2_with fail
            go_round
            case rel =>
              refine ⟨j + 1, Y / 2, by omega, by go_num, by go_num, by omega, ?_⟩
              have hp := HP.out
              rw [HK.out] at hp
              show Y / 2 ^^^ ((s.data.toList.getD k 0).toNat / 2 ^ (j + 1)) = crcT (crcIt j (X ^^^ (s.data.toList.getD k 0).toNat))
              rw [← HY.out, crcT, if_neg hp, Z6d, HD.out]
            case measure => simp [intOf]; omega
        · obtain rfl : j = 8 := by omega
          have hfin : Y = crcStep X (s.data.toList.getD k 0).toNat := by
            have h := HY.out
            rw [show (s.data.toList.getD k 0).toNat / 2 ^ 8 = 0 by omega, Nat.xor_zero] at h
            exact h
          have HF := Lib.hid hfin
          clear hfin
          go_wp2_with fail
          go_round
          case rel => exact ⟨k + 1, Y, by omega, by go_num, rfl, hY, by show _ = _; rw [HS.out, ← HX.out, HF.out]⟩
          case measure => simp [intOf]; omega
    · obtain rfl : k = s.size := by omega
      have e1 : bits .xor .u32 (X : Int) 4294967295 = ((crcSum s.data.toList : Nat) : Int) := by
        have h1 := Z2b X 4294967295 hX (by decide)
        have h2 : X ^^^ 4294967295 = crcSum s.data.toList := by
          rw [HX.out, List.take_of_length_le (by simp)]; rfl
        rw [h2] at h1
        exact h1
      generalize hZ : crcSum s.data.toList = Z at e1 ⊢
      have HZ := Lib.hid hZ
      clear hZ
      go_wp2_with fail
      go_ret
      exact ⟨Z0s (by rw [HZ.out]), rfl⟩

theorem Z51 (n : Int) (w : World) : Calls Try.prog 48 #[.int .i64 n] w fun e w' => e = .returned (.int .i64 (clampSize n)) ∧ w = w' := by
  go_enter Try.func48, Try.ntmps48
  by_cases h0 : n < 1
  · go_wp2
    all_goals
      go_ret
      exact ⟨Z0s (by unfold clampSize; omega), rfl⟩
  · by_cases h8 : 8 < n
    · go_wp2
      all_goals
        go_ret
        exact ⟨Z0s (by unfold clampSize; omega), rfl⟩
    · go_wp2
      all_goals
        go_ret
        exact ⟨Z0s (by unfold clampSize; omega), rfl⟩

theorem Z7u (n j : Nat) : (n : Int) / 2 ^ (8 * j) % 256 = ((UInt8.ofNat (n / 256 ^ j)).toNat : Int) := by
  have e : (2 : Nat) ^ (8 * j) = 256 ^ j := by rw [Nat.pow_mul]
  have e2 : ((n : Int) / 2 ^ (8 * j)) = ((n / 256 ^ j : Nat) : Int) := by rw [← e]; simp
  rw [e2]
  simp

set_option maxRecDepth 10000 in
set_option maxHeartbeats 1000000 in
theorem Z3v (n : Nat) (size : Int) (w : World) (hn : n < 18446744073709551616) :
    Calls Try.prog 22 #[.int .u64 n, .int .i64 size] w fun e w' => e = .returned (.string ⟨(le n (clampSize size)).toArray⟩) ∧ Below w.heap.size w w' := by
  have hk8 : clampSize size ≤ 8 := by unfold clampSize; omega
  go_enter Try.func22, Try.ntmps22
  go_wp2_with fail
  obtain ⟨i0, hi, hz0, hz1, hz2⟩ := info_parts infoByte
  go_loopg [5, 6] (clampSize size) (fun m v i wr => ∃ (j : Nat), j + m = clampSize size ∧ i = .int .i64 j ∧ wr.ownsRowF w.heap.size 5 1 v j (Lib.byteCells (le n j)) ∧ Below w.heap.size w wr)
  case atStart => exact ⟨0, by omega, rfl, ⟨rfl, .inr ⟨w.heap.size, 0, #[], (0, 0), rfl, Nat.le_refl _, heap_alloc_new w _, by simp, by simp, by unfold maxLen; simp, rfl, rfl⟩⟩, by (repeat (first | with_reducible exact Below.refl _ _ | with_reducible assumption | with_reducible apply Below.drew | with_reducible apply Z0b | (with_reducible refine Z0k ?_ ?_; focus ((try simp); (try omega); done)) | (with_reducible refine Z0l ?_ ?_; focus ((try simp); (try omega); done))))⟩
  case round =>
    obtain ⟨j, hj, rfl, hown, hb⟩ := hrel
    have Hj := Lib.hid hj
    by_cases hlt : j < clampSize size
    · have hj8 : j < 8 := by omega
      have e1 := Z7u n j
      have hd : le n (j + 1) = le n j ++ [UInt8.ofNat (n / 256 ^ j)] := rfl
      have Hd := Lib.hid hd
      generalize UInt8.ofNat (n / 256 ^ j) = c at e1 Hd
      have hcell : Lib.byteCells (le n j ++ [c]) = Lib.byteCells (le n j) ++ [.int .u8 (c.toNat : Int)] := by simp [Lib.byteCells]
      have Hcell := Lib.hid hcell
      generalize hk : clampSize size = k at hlt hk8 hj
      clear hj hd hcell
      go_wp2_with (first
        | (go_at_call 48; refine (Z51 _ _).mono ?_; rintro e w5 ⟨rfl, rfl⟩)
        | (at_builtin; refine Z1m _ rfl _ _ 69 rfl w.heap.size 5 i0 (.int .u8 0) 1 1 Try.underlying69 hi hz0 hz1 hz2 rfl (by decide) _ _ _ rfl (hown.alloc _) ⟨wr.heap.size, 0, none⟩ 1 1 [.int .u8 c.toNat] rfl rfl ?c1 ?c2 ?c3 ?c4 ?c5 ?_))
      case c1 =>
        intro j u hj
        match j, hj with
        | 0, hj => simp at hj; subst hj; simp [Addr.add]
      case c2 => intro u hu; simp at hu; subst hu; rfl
      case c3 => unfold maxLen; omega
      case c4 => omega
      case c5 => have := hb.size; simp; omega
      intro v' w2 hown' hgrow _
      rw [← Hcell.out, ← Hd.out] at hown'
      have hb2 : Below w.heap.size w w2 := (hb.alloc hb.size _).grown hgrow (by have := hb.size; simp; omega) (fun k hk => (hown.lt k hk).1)
      clear hown hb e1 Hd Hcell hgrow
      go_wp2_with fail
      go_roundg (gk - 1)
      case measure => have := Hj.out; omega
      case rel => exact ⟨j + 1, by have := Hj.out; omega, by go_num, hown', hb2⟩
    · have hj' : j = clampSize size := by omega
      have hpos : 0 < j := by rw [hj']; unfold clampSize; omega
      have HJ := Lib.hid hj'
      clear hj' hj
      have hex : ∃ g cap, u5 = .slice (some ⟨g, 0, none⟩) j cap := by
        rcases hown.2 with ⟨_, h0⟩ | ⟨g, cap, _, _, hv, _⟩
        · omega
        · exact ⟨g, cap, hv⟩
      obtain ⟨g, cap, rfl⟩ := hex
      have hcv := Z1i wr g 0 cap (le n j) j (Z01 n j) (fun i hi => by
        have := hown.cells (g := g) rfl i (.int .u8 ((le n j).getD i 0).toNat) (by
          have hil : i < (le n j).length := by rw [Z01]; exact hi
          simp [Lib.byteCells, List.getD, List.getElem?_eq_getElem hil])
        rw [Nat.zero_add]
        unfold Addr.add at this
        split at this
        · rename_i h0; subst h0; exact this
        · simpa using this)
      clear hown
      have hnlt : ¬ j < clampSize size := by rw [← HJ.out]; omega
      generalize hk : clampSize size = k at hnlt hk8
      clear hk
      go_wp2_with (go_at_call 48; refine (Z51 _ _).mono ?_; rintro e w5 ⟨rfl, rfl⟩)
      go_ret
      exact ⟨by rw [HJ.out]; rfl, hb⟩

theorem mk_append (a b : List UInt8) : (⟨a.toArray⟩ : ByteArray) ++ ⟨b.toArray⟩ = ⟨(a ++ b).toArray⟩ := by
  apply Z1o
  simp

set_option maxHeartbeats 1000000 in
theorem Z53 (s q : ByteArray) (w : World) (hs : s.size ≤ 1099511627776) (hq : (⟨(sealL s.data.toList).toArray⟩ : ByteArray) = q) :
    Calls Try.prog 23 #[.string s] w fun e w' => e = .returned (.string q) ∧ Below w.heap.size w w' := by
  have hlt := Z0q s.data.toList
  obtain ⟨T, hT⟩ : ∃ T : ByteArray, (⟨(le (crcSum s.data.toList) (clampSize 4)).toArray⟩ : ByteArray) = T := ⟨_, rfl⟩
  have hTs : T.size ≤ 8 := by
    rw [← hT]
    show (le _ (clampSize 4)).toArray.size ≤ 8
    rw [List.size_toArray, Z01]
    decide
  have hcat : s ++ T = q := by
    rw [← hq, ← hT]
    apply Z1o
    rw [Joins.data_append]
    rfl
  generalize hZ : crcSum s.data.toList = Z at hlt hT
  have HZ := Lib.hid hZ
  clear hZ hq
  have H2 : ∀ W : World, Calls Try.prog 22 #[.int .u64 Z, .int .i64 4] W fun e w' => e = .returned (.string T) ∧ Below W.heap.size W w' := by
    intro W
    rw [← hT]
    exact Z3v Z 4 W (by omega)
  have H2' := Lib.hid H2
  clear H2 hT
  have H1 : ∀ W : World, Calls Try.prog 24 #[.string s] W fun e w' => e = .returned (.int .u32 Z) ∧ W = w' := by
    intro W
    rw [← HZ.out]
    exact Z6t s W (by omega)
  have H1' := Lib.hid H1
  clear H1
  go_enter Try.func23, Try.ntmps23
  go_wp2_with fail
  refine (H1'.out _).mono ?_
  rintro e w1 ⟨rfl, rfl⟩
  go_wp2_with fail
  refine (H2'.out _).mono ?_
  rintro e w1 ⟨rfl, hb⟩
  go_wp2_with fail
  go_ret
  exact ⟨rfl, hb⟩

/-- The cells of a row of bytes with room up to c. -/
def rowOf (L : List UInt8) (c : Nat) : Array Value := (Lib.byteCells L ++ List.replicate (c - L.length) (Value.int .u8 0)).toArray
theorem Z54 (L : List UInt8) (c i : Nat) (h : i < L.length) : (rowOf L c)[i]? = some (.int .u8 ((L.getD i 0).toNat : Int)) := by
  simp only [rowOf, List.getElem?_toArray]
  rw [List.getElem?_append_left (by simpa [Lib.byteCells] using h)]
  simp [Lib.byteCells, List.getD, h]
theorem Z87 (L : List UInt8) (c i : Nat) (x : UInt8) (h : i < L.length) : (rowOf L c).setIfInBounds i (.int .u8 (x.toNat : Int)) = rowOf (L.set i x) c := by
  apply Array.ext'
  simp only [rowOf, Array.toList_setIfInBounds, List.length_set]
  rw [List.set_append_left _ _ (by simpa [Lib.byteCells] using h)]
  simp [Lib.byteCells, List.map_set]
theorem Z4n (s : ByteArray) (w : World) (hs : s.size ≤ maxLen) : ∃ c : Nat, s.size ≤ c ∧ c ≤ maxLen ∧
    (convert 9 69 (.string s)).run Try.prog w = .ok (.slice (some ⟨w.heap.size, 0, none⟩) s.size c) (w.drew.alloc (.cells (rowOf s.data.toList c) 5 (c, c + 1))) := by
  obtain ⟨C, c, fz, hcv, hC, hc1, hc2, hc3, hfz⟩ := Z44 s w hs
  subst hfz
  refine ⟨c, hc1, hc2, ?_⟩
  have : C = rowOf s.data.toList c := by
    apply Array.ext_getElem?
    intro i
    rw [hC i]
    have hl : s.data.toList.length = s.size := by simp
    by_cases h1 : i < s.size
    · rw [if_pos h1, Z54 _ _ _ (by omega)]
    · rw [if_neg h1]
      simp only [rowOf, List.getElem?_toArray]
      rw [List.getElem?_append_right (by simp [Lib.byteCells]; omega), List.getElem?_replicate]
      simp only [Lib.byteCells, List.length_map, hl]
      by_cases h2 : i < c
      · rw [if_pos h2, if_pos (by omega)]
      · rw [if_neg h2, if_neg (by omega)]
  rw [hcv, this]

/-- Block g holds the bytes L, with room up to c behind them; none of them is frozen. -/
def Bytes (w : World) (g : Nat) (L : List UInt8) (c : Nat) : Prop := ∃ fz : Nat × Nat, w.heap[g]? = some (.cells (rowOf L c) 5 fz) ∧ (fz = (0, 0) ∨ c ≤ fz.1)
section
variable {w w' : World} {g c : Nat} {L : List UInt8}
theorem Bytes.lt (h : Bytes w g L c) : g < w.heap.size := by
  obtain ⟨fz, h, _⟩ := h
  rcases Nat.lt_or_ge g w.heap.size with hlt | hge
  · exact hlt
  · rw [Array.getElem?_eq_none hge] at h; cases h
theorem Bytes.cell (h : Bytes w g L c) {i : Nat} (hi : i < L.length) : w.cell? ⟨g, i, none⟩ = some (.int .u8 ((L.getD i 0).toNat : Int)) := by
  obtain ⟨fz, h, _⟩ := h
  exact (cell_of_row w g i _ _ _ h).trans (Z54 L c i hi)
theorem Bytes.frozen (h : Bytes w g L c) {i : Nat} (hi : i < c) : w.frozen? ⟨g, i, none⟩ = false := by
  obtain ⟨⟨a, b⟩, h, hf⟩ := h
  rcases hf with hf | hf
  · injection hf with ha hb
    subst ha hb
    simp [World.frozen?, h]
  · simp only at hf
    simp [World.frozen?, h]
    omega
theorem Bytes.set_ (h : Bytes w g L c) {i : Nat} (hi : i < L.length) (x : UInt8) : Bytes (w.setCell ⟨g, i, none⟩ (.int .u8 (x.toNat : Int))) g (L.set i x) c := by
  obtain ⟨fz, h, hf⟩ := h
  refine ⟨fz, ?_, hf⟩
  rw [← Z87 L c i x hi]
  simp [World.setCell, Array.getElem?_modify, h]
theorem Bytes.below (h : Bytes w g L c) (hb : Below w.heap.size w w') : Bytes w' g L c := by
  have hlt := h.lt
  obtain ⟨fz, h, hf⟩ := h
  exact ⟨fz, (hb.block g hlt).trans h, hf⟩
theorem Bytes.drew (h : Bytes w g L c) : Bytes w.drew g L c := h
theorem Bytes.drewN (h : Bytes w g L c) (n : Nat) : Bytes (w.drewN n) g L c := h
theorem Bytes.new_ : Bytes (w.alloc (.cells (rowOf L c) 5 (c, c + 1))) w.heap.size L c := ⟨_, heap_alloc_new w _, .inr (Nat.le_refl _)⟩
theorem Bytes.made : Bytes (w.alloc (.cells (rowOf L c) 5)) w.heap.size L c := ⟨_, heap_alloc_new w _, .inl rfl⟩
theorem Bytes.conv (h : Bytes w g L c) (cap n : Nat) (hn : L.length = n) : (convert 69 9 (.slice (some ⟨g, 0, none⟩) n cap)).run Try.prog w = .ok (.string ⟨L.toArray⟩) w :=
  Z1i w g 0 cap L n hn (fun i hi => by rw [Nat.zero_add]; exact h.cell (by omega))
end

/-- A block of bytes. -/
def tBy (g : Nat) (l : List UInt8) (c : Nat) : Thing where
  foot := [g]
  holds := fun w => Bytes w g l c
  keep := fun w w' _ h ⟨fz, hb, hf⟩ => ⟨fz, (h g (by simp)).trans hb, hf⟩
  lt := fun w h i hi => by simp at hi; subst hi; exact h.lt
  cel := some (g, l.map u8V)
  celOk := fun w b xs e h j v hv => by
    cases e
    rw [List.getElem?_map] at hv
    cases hl : l[j]? with
    | none => rw [hl] at hv; cases hv
    | some x =>
      rw [hl] at hv
      cases hv
      have hj := (List.getElem?_eq_some_iff.1 hl).1
      rw [h.cell hj, List.getD_eq_getElem?_getD, hl]
      rfl
/-- The world as it was, and the cells of one block that are read: for functions that only read. -/
def tAll (w0 : World) (ce : Option (Nat × List Value)) (hc : ∀ b xs, ce = some (b, xs) → b < w0.heap.size ∧ ∀ j v, xs[j]? = some v → w0.cell? ⟨b, j, none⟩ = some v) : Thing where
  foot := List.range w0.heap.size
  holds := fun w => w0.heap.size ≤ w.heap.size ∧ ∀ i, i < w0.heap.size → w.heap[i]? = w0.heap[i]?
  keep := fun w w' hs h ⟨h1, h2⟩ => ⟨Nat.le_trans h1 hs, fun i hi => (h i (List.mem_range.2 hi)).trans (h2 i hi)⟩
  lt := fun w h i hi => Nat.lt_of_lt_of_le (List.mem_range.1 hi) h.1
  cel := ce
  celOk := fun w b xs e h j v hv => by
    obtain ⟨h1, h2⟩ := hc b xs e
    have := h2 j v hv
    unfold World.cell? at this ⊢
    rw [h.2 b h1]
    exact this
theorem all0 (w : World) (ce hc) : OwnT 0 w [tAll w ce hc] w := ⟨⟨rfl, rfl, rfl, Nat.le_refl _, fun _ _ => rfl⟩, Nat.zero_le _, ⟨⟨Nat.le_refl _, fun _ _ => rfl⟩, trivial⟩, fun _ _ _ _ => Nat.zero_le _, List.pairwise_singleton _ _⟩
theorem allE {w0 w : World} {ce hc} {L : List Thing} (i : Nat) (O : OwnT 0 w0 L w) (hi : L[i]? = some (tAll w0 ce hc)) : Ext w0 w := by
  have h : (tAll w0 ce hc).holds w := O.all.mem (List.mem_of_getElem? hi)
  exact ⟨O.below.os, O.below.tape, O.below.output, h.1, fun i hi => h.2 i hi⟩
theorem rowCe {w : World} {T : TypeId} {k n : Nat} {v : Value} {xs : List Value} (hr : w.ownsRow 0 T k v n xs) : ∃ ce, (∀ b ys, ce = some (b, ys) → b < w.heap.size ∧ ∀ j u, ys[j]? = some u → w.cell? ⟨b, j, none⟩ = some u) ∧ (0 < n → ∃ b c, v = .slice (some ⟨b, 0, none⟩) n c ∧ ce = some (b, xs)) := by
  rcases hr.2 with ⟨-, h0⟩ | ⟨g, cap, cur, h1, -, h2, h3, h4, h5, h6⟩
  · exact ⟨none, (fun _ _ h => by cases h), fun h => by omega⟩
  · refine ⟨some (g, xs), fun b ys e => ?_, fun _ => ⟨g, cap, h1, rfl⟩⟩
    cases e
    refine ⟨?_, fun j u hu => ?_⟩
    · rcases Nat.lt_or_ge g w.heap.size with hlt | hge
      · exact hlt
      · rw [Array.getElem?_eq_none hge] at h2; cases h2
    · unfold World.cell?
      simp only [h2]
      rw [← h6, List.getElem?_take] at hu
      split at hu
      · simpa using hu
      · cases hu
section
variable {fn : Func} {R : Ending → World → Prop} {H n : Nat} {A : World} {m : Mp} {a : Act} {w : World} {ops : List Oper} {fr is : List Nat} {LI : List Thing} {ks : List Kf} {L : List Thing} {i : Nat}
theorem x_rowset {P : Program} {o : Oper} {ρ : Operand → Value} {x y : Operand} {T t : TypeId} {k N g c off : Nat} {xs : List Value} {v : Value} {Rs : List Thing} (O : OwnT H A (tRow T k (.slice (some ⟨g, 0, none⟩) N c) N xs :: Rs) w) (ho : o.op = .store t x y) (hx : ρ x = .pointer (some ⟨g, off, none⟩)) (hy : ρ y = v) (hs : (P.info? t).map (·.size) = some v.cells.size) (h1 : v.oneCell' = true) (hoff : off < xs.length) :
    (execOp ρ o).run P w = .ok .skip (w.setCell ⟨g, off, none⟩ v) ∧ OwnT H A (tRow T k (.slice (some ⟨g, 0, none⟩) N c) N (xs.set off v) :: Rs) (w.setCell ⟨g, off, none⟩ v) := by
  have hr := O.r0
  rcases hr.2 with ⟨hn, _⟩ | ⟨g', cap, cur, he, _, hB, h2, h3, h4, h5⟩
  · cases hn
  obtain ⟨rfl, rfl⟩ : g = g' ∧ c = cap := by injection he with e1 e2 e3; injection e1 with e1; injection e1 with e1; exact ⟨e1, e3⟩
  have hlen : xs.length = N * k := hr.1
  have hN : N * k ≤ c * k := Nat.mul_le_mul_right k h2
  have hv : v.cells = #[v] := by cases v <;> first | rfl | (simp [Value.oneCell'] at h1)
  refine ⟨?_, ?_⟩
  · have hrun := run_st (P := P) (t := t) (v := v) (off := off) (show Blk w g T cur from hB) hs (by rw [hv]; simp [h1]) (by rw [hv]; exact Nat.ble_eq_true_of_le (by show off + 1 ≤ cur.size; omega))
    rw [hv] at hrun
    unfold execOp
    simp only [ho, hx, hy, Instr.storeAt, Instr.sureAddr, Sem.run_bind, Sem.run_pure, Result.andThen_ok, hrun]
    rfl
  · refine O.row (row_of (T := T) (k := k) (Blk.set_ (show Blk w g T cur from hB) off v) h2 h3 (by simpa using h4) ?_) (Z0e (World.grownBy.refl w _) (.inl rfl) v) (.inl rfl)
    rw [Array.toList_setIfInBounds, List.take_set, h5]
/-- '[]byte(s)'. -/
theorem s2b (s : ByteArray) (hs : s.size ≤ maxLen) (O : OwnT H A L w) : ∃ g c w', (convert 9 69 (.string s)).run Try.prog w = .ok (.slice (some ⟨g, 0, none⟩) s.size c) w' ∧ s.size ≤ c ∧ OwnT H A (tBy g s.data.toList c :: L) w' := by
  obtain ⟨c, h1, h2, h3⟩ := Z4n s w hs
  have hE := (Ext.drew w).trans (Ext.alloc w.drew (.cells (rowOf s.data.toList c) 5 (c, c + 1)))
  refine ⟨w.heap.size, c, _, h3, h1, O.cons hE (tBy w.heap.size s.data.toList c) (show Bytes _ _ _ _ from Bytes.new_) (fun i hi => by simp [tBy] at hi; omega)⟩
/-- A byte turned. -/
theorem x_byset {o : Oper} {ρ : Operand → Value} {x y : Operand} {t : TypeId} {g c off : Nat} {l : List UInt8} {b : UInt8} {Rs : List Thing} (O : OwnT H A (tBy g l c :: Rs) w) (ho : o.op = .store t x y) (hx : ρ x = .pointer (some ⟨g, off, none⟩)) (hy : ρ y = .int .u8 (b.toNat : Int)) (hs : (Try.prog.info? t).map (·.size) = some 1) (hoff : off < l.length) (hc : l.length ≤ c) :
    (execOp ρ o).run Try.prog w = .ok .skip (w.setCell ⟨g, off, none⟩ (.int .u8 (b.toNat : Int))) ∧ OwnT H A (tBy g (l.set off b) c :: Rs) (w.setCell ⟨g, off, none⟩ (.int .u8 (b.toNat : Int))) := by
  have hB : Bytes w g l c := O.all.1
  refine ⟨?_, O.call (F := [g]) ?_ (fun i hi => hi) (tBy g (l.set off b) c) (hB.set_ hoff b) (fun i hi => .inl hi)⟩
  · have hcell : (w.cell? ⟨g, off, none⟩) = some (.int .u8 ((l.getD off 0).toNat : Int)) := hB.cell hoff
    have hfr := hB.frozen (i := off) (by omega)
    unfold execOp
    simp only [ho, hx, hy, Instr.storeAt, Instr.sureAddr, Sem.run_bind, Sem.run_pure, Result.andThen_ok]
    have hst := run_storeCells_cells (P := Try.prog) g off [.int .u8 (b.toNat : Int)] 0 w (fun j hj => by simp at hj; subst hj; simp [hcell]) (fun j hj => by simp at hj; subst hj; simpa using hfr) (fun v hv => by simp at hv; subst hv; rfl)
    cases hq : Try.prog.info? t with
    | none => rw [hq] at hs; cases hs
    | some i =>
      rw [hq] at hs
      have hs : i.size = 1 := by simpa using hs
      have : (storeVar t ⟨g, off, none⟩ (.int .u8 (b.toNat : Int))).run Try.prog w = .ok () (w.setCell ⟨g, off, none⟩ (.int .u8 (b.toNat : Int))) := by
        simp only [Nat.add_zero] at hst
        simpa [storeVar, sizeOf, typeInfo, hq, hs, Value.cells, World.setCells] using hst
      rw [this]
      rfl
  · exact Chg.of_grown (Z0e (World.grownBy.refl w _) (.inl rfl) _)
/-- A byte turned, in a walk. -/
theorem gY {fn : Func} {o : Oper} {t : TypeId} {x y : Operand} {g c : Nat} {l : List UInt8} (h : Hold H A (tBy g l c :: L) n m (.s ops fr LI (i :: is)) a w) (b : UInt8) (off : Nat) (ho : nthT ops i = some o) (hd : o.dst = none) (e : gd m ops o.guard [] [] = some (true, [], [])) (hop : o.op = .store t x y)
    (hx : opv m x = some (.pointer (some ⟨g, off, none⟩))) (hy : opv m y = some (.int .u8 (b.toNat : Int))) (hs : (Try.prog.info? t).map (·.size) = some 1) (hoff : off < l.length) (hc : l.length ≤ c) (hI : ∀ w', OwnT H A (tBy g (l.set off b) c :: L) w' → Ths w' LI)
    (hn : ∀ a' w', Hold H A (tBy g (l.set off b) c :: L) n m (.s ops fr LI is) a' w' → At Try.prog fn R ks (.s ops fr LI is) a' w') (hm : memN fr i = false := by rfl) : At Try.prog fn R ks (.s ops fr LI (i :: is)) a w := by
  obtain ⟨hr, O2⟩ := x_byset h.O hop (h.M.opv _ _ hx) (h.M.opv _ _ hy) hs hoff hc
  exact suG h [] ho hd e hr O2 (hI _ O2) (fun a' h' => hn a' _ h') hm
/-- A cell of a row turned, in a walk. -/
theorem gQ {fn : Func} {o : Oper} {T t : TypeId} {x y : Operand} {k N g c : Nat} {xs : List Value} (h : Hold H A (tRow T k (.slice (some ⟨g, 0, none⟩) N c) N xs :: L) n m (.s ops fr LI (i :: is)) a w) (v : Value) (off : Nat) (ho : nthT ops i = some o) (hd : o.dst = none) (e : gd m ops o.guard [] [] = some (true, [], [])) (hop : o.op = .store t x y)
    (hx : opv m x = some (.pointer (some ⟨g, off, none⟩))) (hy : opv m y = some v) (hs : (Try.prog.info? t).map (·.size) = some v.cells.size) (h1 : v.oneCell' = true) (hoff : off < xs.length) (hI : ∀ w', OwnT H A (tRow T k (.slice (some ⟨g, 0, none⟩) N c) N (xs.set off v) :: L) w' → Ths w' LI)
    (hn : ∀ a' w', Hold H A (tRow T k (.slice (some ⟨g, 0, none⟩) N c) N (xs.set off v) :: L) n m (.s ops fr LI is) a' w' → At Try.prog fn R ks (.s ops fr LI is) a' w') (hm : memN fr i = false := by rfl) : At Try.prog fn R ks (.s ops fr LI (i :: is)) a w := by
  obtain ⟨hr, O2⟩ := x_rowset h.O hop (h.M.opv _ _ hx) (h.M.opv _ _ hy) hs h1 hoff
  exact suG h [] ho hd e hr O2 (hI _ O2) (fun a' h' => hn a' _ h') hm
theorem run_bs0 {t T : TypeId} {k bytes : Nat} (hE : chkE Try.prog t T k bytes = true) {o : Oper} {ρ : Operand → Value} (ho : o.op = .buildSlice t 0 #[]) (w : World) : (execOp ρ o).run Try.prog w = .ok (.value (.slice (some ⟨w.heap.size, 0, none⟩) 0 0)) (w.alloc (.cells #[] T)) := by
  obtain ⟨E1, i0, z, hi0, hz, hsz, hby, hzs⟩ := Z33 hE
  have hsize : (sizeOf T).run Try.prog w = .ok i0.size w := by simp [sizeOf, typeInfo, hi0, Sem.run_bind]
  unfold execOp
  simp [ho, Instr.buildSlice, run_underlying E1, Sem.run_bind, hsize, Instr.fill, newRow, newObj]
  have hem : Array.map (fun _ => (default : Value)) (Array.range 0) = #[] := by apply Array.ext' ; simp
  rw [hem]
  rfl
/-- A slice literal of nothing. -/
theorem gZ {fn : Func} {o : Oper} {t : TypeId} {d : Nat} (h : Hold H A L n m (.s ops fr LI (i :: is)) a w) (T : TypeId) (k : Nat) (ho : nthT ops i = some o) (hd : o.dst = some d) (e : gd m ops o.guard [] [] = some (true, [], [])) (hop : o.op = .buildSlice t 0 #[])
    (hn : ∀ g a' w', Hold H A (tRow T k (.slice (some ⟨g, 0, none⟩) 0 0) 0 [] :: L) n ((d, .slice (some ⟨g, 0, none⟩) 0 0) :: m) (.s ops fr LI is) a' w' → At Try.prog fn R ks (.s ops fr LI is) a' w')
    (hE : chkE Try.prog t T k (((Try.prog.info? T).map (·.bytes)).getD 0) = true := by kernel_rfl) (hm : memN fr i = false := by rfl) (hb : Nat.blt d n = true := by rfl) : At Try.prog fn R ks (.s ops fr LI (i :: is)) a w :=
  spG h [] ho hd e (run_bs0 hE hop w) (h.O.emptyRow T k) (h.J.ext (Ext.alloc w _)) (fun a' h' => hn _ a' _ h') hm trivial hb
end

/-- A sector of one byte. -/
def secL (b : UInt8) : List UInt8 := List.replicate 16 b

theorem Z0o (s : ByteArray) (w : World) (hs : s.size ≤ 140737488355328) : Calls Try.prog 41 #[.string s] w fun e w' => e = .returned (.bool (decide (s.size % 16 = 0))) ∧ w = w' := by
  go_enter Try.func41, Try.ntmps41
  go_wp2
  go_ret
  refine ⟨Z2z ?_, rfl⟩
  rw [Bool.eq_iff_iff]
  simp
  omega

theorem Z3t (s : ByteArray) (i : Nat) (w : World) (hs : s.size ≤ 140737488355328) (hi : (i + 1) * 16 ≤ s.size) :
    Calls Try.prog 42 #[.string s, .int .i64 i] w fun e w' => e = .returned (.string (s.extract (i * 16) ((i + 1) * 16))) ∧ w = w' := by
  go_enter Try.func42, Try.ntmps42
  go_wp2
  go_ret
  exact ⟨rfl, rfl⟩

theorem Z4b (at_ : Int) (d : ByteArray) (w : World) (hs : d.size ≤ 140737488355328) :
    Calls Try.prog 43 #[.agg #[.int .i64 at_, .string d]] w fun e w' => e = .returned (.int .i64 ((d.size / 16 : Nat) : Int)) ∧ Below w.heap.size w w' := by
  go_enter Try.func43, Try.ntmps43
  go_wp2
  go_ret
  exact ⟨Z0s (by simp), by (repeat (first | with_reducible exact Below.refl _ _ | with_reducible assumption | with_reducible apply Below.drew | with_reducible apply Z0b | (with_reducible refine Z0k ?_ ?_; focus ((try simp); (try omega); done)) | (with_reducible refine Z0l ?_ ?_; focus ((try simp); (try omega); done))))⟩


/-- Sector i of a text. -/
def secB (s : ByteArray) (i : Nat) : ByteArray := s.extract (i * 16) ((i + 1) * 16)
/-- A sector that differs, laid to the extents so far. -/
def laid (L : List (Nat × ByteArray)) (i : Nat) (d : ByteArray) : List (Nat × ByteArray) :=
  match L.getLast? with
  | some x => if x.1 + x.2.size / 16 = i then L.dropLast ++ [(x.1, x.2 ++ d)] else L ++ [(i, d)]
  | none => L ++ [(i, d)]
open Classical in
/-- The extents behind k sectors. -/
noncomputable def ofTo (a b : ByteArray) : Nat → List (Nat × ByteArray)
  | 0 => []
  | k + 1 => if secB b k = secB a k then ofTo a b k else laid (ofTo a b k) k (secB b k)
theorem Z1a {P : List (Nat × ByteArray)} {x : Nat × ByteArray} {i : Nat} {d : ByteArray} : laid (P ++ [x]) i d = if x.1 + x.2.size / 16 = i then P ++ [(x.1, x.2 ++ d)] else P ++ [x] ++ [(i, d)] := by
  simp only [laid, List.getLast?_append, List.getLast?_singleton, Option.some_or, List.dropLast_concat]
theorem Z4l {i : Nat} {d : ByteArray} : laid [] i d = [(i, d)] := rfl
theorem Z13 (a b : ByteArray) (k : Nat) : (ofTo a b k).length ≤ k := by
  induction k with
  | zero => simp [ofTo]
  | succ k ih =>
    rw [ofTo]
    split
    · omega
    · unfold laid
      split
      · split
        · simp; omega
        · simp; omega
      · simp; omega
theorem Z23 (b : ByteArray) (n k : Nat) (hb : b.size = 16 * n) (hk : k < n) : (secB b k).size = 16 := by unfold secB; rw [ByteArray.size_extract]; omega

/-- Each extent ends within k sectors; it has whole sectors, and some; they rise and are apart. -/
def apartL : List (Nat × ByteArray) → Nat → Prop
  | [], _ => True
  | x :: L, m => m ≤ x.1 ∧ x.2.size % 16 = 0 ∧ 0 < x.2.size ∧ apartL L (x.1 + x.2.size / 16 + 1)
theorem Z0z : ∀ (L : List (Nat × ByteArray)) (x : Nat × ByteArray) (m : Nat), apartL (L ++ [x]) m ↔ apartL L m ∧ x.2.size % 16 = 0 ∧ 0 < x.2.size ∧ (match L.getLast? with | some y => y.1 + y.2.size / 16 + 1 ≤ x.1 | none => m ≤ x.1)
  | [], x, m => by simp [apartL]; exact ⟨fun ⟨a, b, c⟩ => ⟨b, c, a⟩, fun ⟨b, c, a⟩ => ⟨a, b, c⟩⟩
  | [y], x, m => by
    simp only [List.singleton_append, apartL, List.getLast?_singleton, and_true]
    constructor
    · rintro ⟨a, b, c, d, e, f⟩; exact ⟨⟨a, b, c⟩, e, f, d⟩
    · rintro ⟨⟨a, b, c⟩, e, f, d⟩; exact ⟨a, b, c, d, e, f⟩
  | y :: z :: L, x, m => by
    have ih := Z0z (z :: L) x (y.1 + y.2.size / 16 + 1)
    rw [List.cons_append]
    simp only [apartL] at ih ⊢
    rw [List.cons_append] at ih
    simp only [apartL] at ih
    have e : (y :: z :: L).getLast? = (z :: L).getLast? := by simp [List.getLast?_cons]
    rw [e]
    constructor
    · rintro ⟨a, b, c, d⟩
      obtain ⟨h1, h2⟩ := ih.1 d
      exact ⟨⟨a, b, c, h1⟩, h2⟩
    · rintro ⟨⟨a, b, c, h1⟩, h2⟩
      exact ⟨a, b, c, ih.2 ⟨h1, h2⟩⟩
theorem Z0t (a b : ByteArray) (n k : Nat) (hb : b.size = 16 * n) (hk : k ≤ n) : (∀ x ∈ ofTo a b k, x.1 + x.2.size / 16 ≤ k ∧ x.2.size % 16 = 0 ∧ 0 < x.2.size) ∧ apartL (ofTo a b k) 0 := by
  induction k with
  | zero => simp [ofTo, apartL]
  | succ k ih =>
    obtain ⟨ih, ih2⟩ := ih (by omega)
    have h16 := Z23 b n k hb (by omega)
    rw [ofTo]
    split
    · exact ⟨fun x hx => by have := ih x hx; omega, ih2⟩
    · have hnew : (k + (secB b k).size / 16 ≤ k + 1 ∧ (secB b k).size % 16 = 0 ∧ 0 < (secB b k).size) := by omega
      rcases List.eq_nil_or_concat (ofTo a b k) with h | ⟨P, y, h⟩
      · rw [h, Z4l]
        exact ⟨fun x hx => by simp at hx; subst hx; exact hnew, by simp [apartL]; omega⟩
      · rw [List.concat_eq_append] at h
        rw [h] at ih ih2 ⊢
        have hy := ih y (by simp)
        rw [Z1a]
        rw [Z0z] at ih2
        split
        · rename_i he
          refine ⟨fun x hx => ?_, (Z0z _ _ _).2 ⟨ih2.1, ?_, ?_, ?_⟩⟩
          · rcases List.mem_append.1 hx with hx | hx
            · have := ih x (by simp [hx]); omega
            · simp at hx
              subst hx
              simp only [ByteArray.size_append, h16]
              omega
          · simp only [ByteArray.size_append, h16]; omega
          · simp only [ByteArray.size_append, h16]; omega
          · exact ih2.2.2.2
        · rename_i he
          refine ⟨fun x hx => ?_, (Z0z _ _ _).2 ⟨(Z0z _ _ _).2 ih2, hnew.2.1, hnew.2.2, ?_⟩⟩
          · rcases List.mem_append.1 hx with hx | hx
            · have := ih x hx; omega
            · simp at hx
              subst hx
              exact hnew
          · rw [List.getLast?_concat]
            show y.1 + y.2.size / 16 + 1 ≤ k
            omega

/-- Bytes laid on others. -/
def putB (x : List UInt8) (i : Nat) (d : List UInt8) : List UInt8 := x.take i ++ (d ++ x.drop (i + d.length))
theorem Z0n (x : List UInt8) (i : Nat) (d : List UInt8) (h : i + d.length ≤ x.length) : (putB x i d).length = x.length := by
  simp [putB]; omega
theorem Z12 (x : List UInt8) (i : Nat) (d : List UInt8) (h : i + d.length ≤ x.length) (j : Nat) : (putB x i d)[j]? = if i ≤ j ∧ j < i + d.length then d[j - i]? else x[j]? := by
  unfold putB
  have hl : (x.take i).length = i := by rw [List.length_take]; omega
  by_cases h1 : j < i
  · rw [List.getElem?_append_left (by omega), List.getElem?_take_of_lt h1, if_neg (by omega)]
  · rw [List.getElem?_append_right (by omega), hl]
    by_cases h2 : j < i + d.length
    · rw [if_pos ⟨by omega, h2⟩, List.getElem?_append_left (by omega)]
    · rw [if_neg (by omega), List.getElem?_append_right (by omega), List.getElem?_drop]
      congr 1
      omega
theorem putB_putB (x : List UInt8) (i : Nat) (d e : List UInt8) (h : i + d.length + e.length ≤ x.length) : putB (putB x i d) (i + d.length) e = putB x i (d ++ e) := by
  apply List.ext_getElem?
  intro j
  rw [Z12 _ _ _ (by rw [Z0n _ _ _ (by omega)]; omega), Z12 _ _ _ (by omega), Z12 _ _ _ (by rw [List.length_append]; omega), List.length_append]
  by_cases h1 : i + d.length ≤ j ∧ j < i + d.length + e.length
  · rw [if_pos h1, if_pos (by omega), List.getElem?_append_right (by omega)]
    congr 1
    omega
  · rw [if_neg h1]
    by_cases h2 : i ≤ j ∧ j < i + d.length
    · rw [if_pos h2, if_pos (by omega), List.getElem?_append_left (by omega)]
    · rw [if_neg h2, if_neg (by omega)]
def applyL (x : List UInt8) (L : List (Nat × ByteArray)) : List UInt8 := L.foldl (fun y e => putB y (16 * e.1) e.2.data.toList) x
theorem Z0y (x : List UInt8) (L : List (Nat × ByteArray)) (e : Nat × ByteArray) : applyL x (L ++ [e]) = putB (applyL x L) (16 * e.1) e.2.data.toList := by simp [applyL]
/-- Sector j of bytes. -/
def secAt (x : List UInt8) (j : Nat) : List UInt8 := (x.drop (16 * j)).take 16
theorem Z1q (s : ByteArray) (j : Nat) : (secB s j).data.toList = secAt s.data.toList j := by
  unfold secB secAt
  rw [Lib.extract_data, show (j + 1) * 16 - j * 16 = 16 by omega, Nat.mul_comm]
theorem Z24 (x : List UInt8) (j i : Nat) (h : i < 16) : (secAt x j)[i]? = x[16 * j + i]? := by
  unfold secAt
  rw [List.getElem?_take_of_lt h, List.getElem?_drop]
theorem Z4w (x y : List UInt8) (n : Nat) (hx : x.length = 16 * n) (hy : y.length = 16 * n) (h : ∀ j, j < n → secAt x j = secAt y j) : x = y := by
  apply List.ext_getElem?
  intro i
  by_cases hi : i < 16 * n
  · have : (secAt x (i / 16))[i % 16]? = (secAt y (i / 16))[i % 16]? := by rw [h (i / 16) (by omega)]
    rw [Z24 _ _ _ (by omega), Z24 _ _ _ (by omega), show 16 * (i / 16) + i % 16 = i by omega] at this
    exact this
  · rw [List.getElem?_eq_none (by omega), List.getElem?_eq_none (by omega)]
theorem Z7b (x d : List UInt8) (k j : Nat) (hd : d.length = 16) (h : 16 * k + 16 ≤ x.length) (hj : 16 * j + 16 ≤ x.length) : secAt (putB x (16 * k) d) j = if j = k then d else secAt x j := by
  apply List.ext_getElem?
  intro i
  by_cases hi : i < 16
  · rw [Z24 _ _ _ hi, Z12 _ _ _ (by omega), hd]
    by_cases hjk : j = k
    · subst hjk
      rw [if_pos (by omega), if_pos rfl]
      congr 1
      omega
    · rw [if_neg (by omega), if_neg hjk, Z24 _ _ _ hi]
  · have e1 : (secAt (putB x (16 * k) d) j).length ≤ 16 := by simp [secAt]; omega
    have e2 : (if j = k then d else secAt x j).length ≤ 16 := by split; omega; simp [secAt]; omega
    rw [List.getElem?_eq_none (by omega), List.getElem?_eq_none (by omega)]
theorem Z6b (x : List UInt8) (L : List (Nat × ByteArray)) (k : Nat) (d : ByteArray) (hd : d.size = 16) (hx : 16 * k + 16 ≤ x.length) (hL : ∀ e ∈ L, e.1 + e.2.size / 16 ≤ k ∧ e.2.size % 16 = 0) (hlen : ∀ P, (∀ e ∈ P, e ∈ L) → (applyL x P).length = x.length) :
    applyL x (laid L k d) = putB (applyL x L) (16 * k) d.data.toList := by
  rcases List.eq_nil_or_concat L with rfl | ⟨P, y, rfl⟩
  · rfl
  · rw [List.concat_eq_append] at hL hlen ⊢
    rw [Z1a]
    have hy := hL y (by simp)
    have hys : y.2.data.toList.length = y.2.size := by simp
    have hds : d.data.toList.length = d.size := by simp
    split
    · rename_i he
      rw [Z0y, Z0y]
      have hk : 16 * k = 16 * y.1 + y.2.data.toList.length := by omega
      rw [hk, putB_putB _ _ _ _ (by rw [hlen P (fun e he => by simp [he])]; omega)]
      rw [ByteArray.data_append, Array.toList_append]
    · rw [Z0y]
theorem Z1j (n : Nat) : ∀ (P : List (Nat × ByteArray)) (x : List UInt8), x.length = 16 * n → (∀ e ∈ P, e.1 + e.2.size / 16 ≤ n ∧ e.2.size % 16 = 0) → (applyL x P).length = x.length
  | [], _, _, _ => rfl
  | e :: P, x, hx, h => by
    have he := h e (by simp)
    have hs : e.2.data.toList.length = e.2.size := by simp
    have hp : (putB x (16 * e.1) e.2.data.toList).length = x.length := Z0n _ _ _ (by omega)
    have := Z1j n P (putB x (16 * e.1) e.2.data.toList) (by omega) (fun z hz => h z (by simp [hz]))
    show (applyL (putB x (16 * e.1) e.2.data.toList) P).length = x.length
    omega
open Classical in
/-- What extents make of a text: the sectors that differ are the other one's. -/
theorem Z6a (a b : ByteArray) (x : List UInt8) (n k : Nat) (hb : b.size = 16 * n) (hx : x.length = 16 * n) (hk : k ≤ n) :
    (applyL x (ofTo a b k)).length = 16 * n ∧ ∀ j, j < n → secAt (applyL x (ofTo a b k)) j = if j < k ∧ ¬ secB b j = secB a j then secAt b.data.toList j else secAt x j := by
  have hlen := fun P h => Z1j n P x hx h
  induction k with
  | zero => exact ⟨hx, fun j hj => by rw [if_neg (by omega)]; rfl⟩
  | succ k ih =>
    obtain ⟨i1, i2⟩ := ih (by omega)
    have h16 := Z23 b n k hb (by omega)
    have hbd := (Z0t a b n k hb (by omega)).1
    rw [ofTo]
    by_cases he : secB b k = secB a k
    · rw [if_pos he]
      refine ⟨i1, fun j hj => ?_⟩
      rw [i2 j hj]
      by_cases hjk : j = k
      · subst hjk
        rw [if_neg (by omega), if_neg (fun h => h.2 he)]
      · have : (j < k ∧ ¬ secB b j = secB a j) ↔ (j < k + 1 ∧ ¬ secB b j = secB a j) := by constructor <;> rintro ⟨h1, h2⟩ <;> exact ⟨by omega, h2⟩
        simp only [this]
    · rw [if_neg he]
      have hd : (secB b k).data.toList.length = 16 := by have : (secB b k).data.toList.length = (secB b k).size := by simp
                                                         omega
      have e := Z6b x (ofTo a b k) k (secB b k) h16 (by omega) (fun z hz => ⟨(hbd z hz).1, (hbd z hz).2.1⟩) (fun P hP => hlen P (fun z hz => by have := hbd z (hP z hz); omega))
      rw [e]
      refine ⟨by rw [Z0n _ _ _ (by omega)]; exact i1, fun j hj => ?_⟩
      rw [Z7b _ _ _ _ hd (by omega) (by omega)]
      by_cases hjk : j = k
      · subst hjk
        rw [if_pos rfl, if_pos ⟨by omega, he⟩, Z1q]
      · rw [if_neg hjk, i2 j hj]
        have : (j < k ∧ ¬ secB b j = secB a j) ↔ (j < k + 1 ∧ ¬ secB b j = secB a j) := by constructor <;> rintro ⟨h1, h2⟩ <;> exact ⟨by omega, h2⟩
        simp only [this]
/-- How many sectors extents have. -/
def sumX : List (Nat × ByteArray) → Nat
  | [] => 0
  | x :: L => x.2.size / 16 + sumX L
theorem Z3a (L M : List (Nat × ByteArray)) : sumX (L ++ M) = sumX L + sumX M := by
  induction L with
  | nil => simp [sumX]
  | cons x L ih => simp only [List.cons_append, sumX, ih]; omega
open Classical in
/-- How many of k sectors differ. -/
noncomputable def differN (a b : ByteArray) : Nat → Nat
  | 0 => 0
  | k + 1 => differN a b k + if secB b k = secB a k then 0 else 1
theorem Z4v (a b : ByteArray) (n k : Nat) (hb : b.size = 16 * n) (hk : k ≤ n) : sumX (ofTo a b k) = differN a b k := by
  induction k with
  | zero => rfl
  | succ k ih =>
    have ih := ih (by omega)
    have h16 := Z23 b n k hb (by omega)
    have hbd := (Z0t a b n k hb (by omega)).1
    rw [ofTo, differN]
    by_cases he : secB b k = secB a k
    · rw [if_pos he, if_pos he]; exact ih
    · rw [if_neg he, if_neg he, ← ih]
      rcases List.eq_nil_or_concat (ofTo a b k) with h | ⟨P, y, h⟩
      · rw [h, Z4l]
        show (secB b k).size / 16 + 0 = 0 + 1
        omega
      · rw [List.concat_eq_append] at h
        have hy := hbd y (by rw [h]; simp)
        rw [h, Z1a]
        split
        · simp only [Z3a, sumX, ByteArray.size_append, h16]; omega
        · simp only [Z3a, sumX, h16]
/-- Two texts of as many sectors are the same just when no sector differs. -/
theorem Z7o (a b : ByteArray) (n : Nat) (ha : a.size = 16 * n) (hb : b.size = 16 * n) : a = b ↔ ∀ j, j < n → secB b j = secB a j := by
  constructor
  · rintro rfl _ _; rfl
  · intro h
    have la : a.data.toList.length = 16 * n := by simpa using ha
    have lb : b.data.toList.length = 16 * n := by simpa using hb
    have e := Z4w a.data.toList b.data.toList n la lb (fun j hj => by rw [← Z1q, ← Z1q, h j hj])
    rw [← Z0x a, e, Z0x]
end Go.Proofs.Ytbfgacmfjfbooaa
