/- The walks of strings.Builder's methods on the builder that lies in an octet.Writer of the call's own. -/
import Derived.Test.YtoiifcmjmjkcaaaKShipBack00
import Derived.RegionTactic
import Derived.Laws.BitsAllLaws
import Derived.Lib.Strings
namespace Go.Proofs.Ytoiifcmjmjkcaaa
set_option linter.unusedVariables false
set_option linter.unusedSimpArgs false
open Go.RowKit

/-- Block b is a Writer that holds the bytes l; its buffer is block g (none: it has none yet). 'p': what the builder's 'addr' holds. -/
def WrP (w : World) (b : Nat) (g : Option Nat) (p : Value) (l : List UInt8) : Prop :=
  ∃ v, w.heap[b]? = some (.cells #[p, v] 83 (0, 0)) ∧ w.ownsRowF 0 5 1 v l.length (Lib.byteCells l) ∧ v.ownBlock = g
def Wr (w : World) (b : Nat) (g : Option Nat) (l : List UInt8) : Prop := WrP w b g (.pointer none) l ∨ WrP w b g (.pointer (some ⟨b, 0, none⟩)) l

/-- Of what was there nothing has turned but block b and its buffer g; the buffer is now g', the old one or a new one. -/
structure Wrote (w : World) (b : Nat) (g g' : Option Nat) (w' : World) : Prop where
  os : w'.os = w.os
  tape : w'.tape = w.tape
  output : w'.output = w.output
  size : w.heap.size ≤ w'.heap.size
  block : ∀ k, k < w.heap.size → k ≠ b → some k ≠ g → w'.heap[k]? = w.heap[k]?
  own : g' = g ∨ ∃ k, g' = some k ∧ w.heap.size ≤ k

theorem Wrote.refl (w : World) (b : Nat) (g : Option Nat) : Wrote w b g g w := ⟨rfl, rfl, rfl, Nat.le_refl _, fun _ _ _ _ => rfl, .inl rfl⟩
theorem Wrote.trans {a c d : World} {b : Nat} {g g' g'' : Option Nat} (h : Wrote a b g g' c) (k : Wrote c b g' g'' d) : Wrote a b g g'' d := by
  refine ⟨k.os.trans h.os, k.tape.trans h.tape, k.output.trans h.output, Nat.le_trans h.size k.size, fun i hi hb hg => ?_, ?_⟩
  · refine (k.block i (Nat.lt_of_lt_of_le hi h.size) hb ?_).trans (h.block i hi hb hg)
    rcases h.own with rfl | ⟨j, rfl, hj⟩
    · exact hg
    · intro e
      injection e with e
      omega
  · rcases k.own with rfl | ⟨j, rfl, hj⟩
    · exact h.own
    · exact .inr ⟨j, rfl, Nat.le_trans h.size hj⟩
theorem Wrote.drew {a c : World} {b : Nat} {g g' : Option Nat} (h : Wrote a b g g' c) : Wrote a b g g' c.drew := ⟨h.os, h.tape, h.output, h.size, h.block, h.own⟩
/-- Both the writer and its buffer lie from B on: below B nothing has turned. -/
theorem Wrote.below {A w w' : World} {B b : Nat} {g g' : Option Nat} (h : Wrote w b g g' w') (hA : Below B A w) (hB : B ≤ w.heap.size) (hb : B ≤ b) (hg : ∀ k, g = some k → B ≤ k) : Below B A w' :=
  hA.trans ⟨h.os, h.tape, h.output, h.size, fun k hk => h.block k (by omega) (by omega) (fun e => by have := hg k e.symm; omega)⟩
theorem Wrote.own_from {w w' : World} {B b : Nat} {g g' : Option Nat} (h : Wrote w b g g' w') (hB : B ≤ w.heap.size) (hg : ∀ k, g = some k → B ≤ k) : ∀ k, g' = some k → B ≤ k := by
  intro k hk
  rcases h.own with e | ⟨j, e, hj⟩
  · exact hg k (e ▸ hk)
  · rw [hk] at e; injection e with e; omega

theorem WrP.lt {w : World} {b : Nat} {g : Option Nat} {p : Value} {l : List UInt8} (h : WrP w b g p l) : b < w.heap.size := by
  obtain ⟨v, hb, _⟩ := h
  exact Blk.lt hb
theorem WrP.ne {w : World} {b : Nat} {g : Option Nat} {p : Value} {l : List UInt8} (h : WrP w b g p l) : g ≠ some b := by
  obtain ⟨v, hb, hown, rfl⟩ := h
  exact Lib.ownBlock_neF hown hb (by decide)
theorem WrP.own_lt {w : World} {b : Nat} {g : Option Nat} {p : Value} {l : List UInt8} (h : WrP w b g p l) : ∀ k, g = some k → k < w.heap.size := by
  obtain ⟨v, hb, hown, rfl⟩ := h
  exact fun k hk => (hown.lt k hk).2
/-- Kept where neither block has turned. -/
theorem WrP.keep {w w' : World} {b : Nat} {g : Option Nat} {p : Value} {l : List UInt8} (h : WrP w b g p l) (hb : w'.heap[b]? = w.heap[b]?) (hg : ∀ k, g = some k → w'.heap[k]? = w.heap[k]?) : WrP w' b g p l := by
  obtain ⟨v, h1, h2, h3⟩ := h
  refine ⟨v, hb.trans h1, ⟨h2.1, ?_⟩, h3⟩
  rcases h2.2 with hn | ⟨g', cap, cur, fz, rfl, hbg, hgg, rest⟩
  · exact .inl hn
  · exact .inr ⟨g', cap, cur, fz, rfl, hbg, (hg g' (by rw [← h3]; rfl)).trans hgg, rest⟩
theorem Wr.lt {w : World} {b : Nat} {g : Option Nat} {l : List UInt8} (h : Wr w b g l) : b < w.heap.size := h.elim WrP.lt WrP.lt
theorem Wr.ne {w : World} {b : Nat} {g : Option Nat} {l : List UInt8} (h : Wr w b g l) : g ≠ some b := h.elim WrP.ne WrP.ne
theorem Wr.own_lt {w : World} {b : Nat} {g : Option Nat} {l : List UInt8} (h : Wr w b g l) : ∀ k, g = some k → k < w.heap.size := h.elim WrP.own_lt WrP.own_lt
theorem Wr.keep {w w' : World} {b : Nat} {g : Option Nat} {l : List UInt8} (h : Wr w b g l) (hb : w'.heap[b]? = w.heap[b]?) (hg : ∀ k, g = some k → w'.heap[k]? = w.heap[k]?) : Wr w' b g l :=
  h.elim (fun h => .inl (h.keep hb hg)) (fun h => .inr (h.keep hb hg))
theorem Wr.drew {w : World} {b : Nat} {g : Option Nat} {l : List UInt8} (h : Wr w b g l) : Wr w.drew b g l := h
theorem Wr.alloc {w : World} {b : Nat} {g : Option Nat} {l : List UInt8} (h : Wr w b g l) (o : Obj) : Wr (w.alloc o) b g l :=
  h.keep (Below.heap_alloc w o b h.lt) (fun k hk => Below.heap_alloc w o k (h.own_lt k hk))
theorem Wr.below {w w' : World} {b : Nat} {g : Option Nat} {l : List UInt8} (h : Wr w b g l) (hb : Below w.heap.size w w') : Wr w' b g l :=
  h.keep (hb.block b h.lt) (fun k hk => hb.block k (h.own_lt k hk))
/-- Another writer's deed. -/
theorem Wr.other {w w' : World} {b b2 : Nat} {g g2 g3 : Option Nat} {l : List UInt8} (h : Wr w b g l) (k : Wrote w b2 g2 g3 w') (hb : b ≠ b2) (hg : g2 ≠ some b) (hb2 : g ≠ some b2) (hgg : g ≠ g2 ∨ g = none) : Wr w' b g l :=
  h.keep (k.block b h.lt hb (fun e => hg e.symm)) (fun j hj => k.block j (h.own_lt j hj) (fun e => hb2 (by rw [hj, e])) (fun e => by
    rcases hgg with hh | hh
    · exact hh (by rw [hj, e])
    · rw [hh] at hj; cases hj))
/-- A new, empty writer. -/
theorem Wr.new_ {w : World} {b : Nat} (hb : b = w.heap.size) : Wr (w.alloc (.cells #[.pointer none, .slice none 0 0] 83)) b none [] :=
  .inl ⟨.slice none 0 0, blk_new hb, ⟨rfl, .inl ⟨rfl, rfl⟩⟩, rfl⟩

theorem sizeB : (Try.prog.info? 81).map (·.size) = some 2 := by kernel_rfl
theorem liesB : liesAt Try.prog Try.prog.depth 83 (2 / Try.prog.cellsOf 83) 0 81 1 = true := by kernel_rfl
theorem infoByte : (Try.prog.info? 5).map (fun i => (i.zero, i.size, i.bytes)) = some (some (.int .u8 0), 1, 1) := by kernel_rfl
theorem cellsByte : Try.prog.cellsOf 5 = 1 := by kernel_rfl

set_option maxHeartbeats 1000000 in
set_option maxRecDepth 100000 in
theorem copyCheck_used (b : Nat) (w : World) (h0 : w.cell? ⟨b, 0, none⟩ = some (.pointer (some ⟨b, 0, none⟩))) :
    Calls Try.prog 69 #[.pointer (some ⟨b, 0, none⟩)] w fun e w' => e = .returned (.tuple #[]) ∧ w' = w := by
  obtain ⟨j, hj, _⟩ := Option.map_eq_some_iff.1 sizeB
  go_enter Try.func69, Try.ntmps69
  go_wp2
  rw [Lib.run_neq_ptr_same w _ Try.underlying79 hj]
  go_wp2
  go_end0
  exact ⟨rfl, rfl⟩

set_option maxHeartbeats 1000000 in
set_option maxRecDepth 100000 in
theorem copyCheck_fresh (b : Nat) (w : World) (h0 : w.cell? ⟨b, 0, none⟩ = some (.pointer none)) (hsh : w.shape? b = some (83, 2)) (hfz : w.frozen? ⟨b, 0, none⟩ = false) :
    Calls Try.prog 69 #[.pointer (some ⟨b, 0, none⟩)] w fun e w' => e = .returned (.tuple #[]) ∧ w' = w.setCell ⟨b, 0, none⟩ (.pointer (some ⟨b, 0, none⟩)) := by
  obtain ⟨j, hj, hjs⟩ := Option.map_eq_some_iff.1 sizeB
  go_enter Try.func69, Try.ntmps69
  go_wp2
  rw [Lib.run_to_unsafe w ⟨b, 0, none⟩ Try.underlying79 Try.underlying115 hj (by rw [hjs]; decide) hsh (Nat.zero_lt_succ 1)]
  simp only [Result.andThen]
  rw [Oper.upon_value]
  go_wp2
  rw [run_callFunc_extern Try.func71 (by kernel_rfl) (by kernel_rfl) (by kernel_rfl) (e := Extern.AbiNoEscape.same) (by kernel_rfl)]
  rw [Lib.run_noEscape]
  simp only [Result.andThen]
  rw [Oper.upon_value]
  go_wp2
  rw [Lib.run_from_unsafe w ⟨b, 0, none⟩ Try.underlying115 Try.underlying79 hj hsh liesB]
  simp only [Result.andThen]
  rw [Oper.upon_value]
  go_wp2
  go_end0
  exact ⟨rfl, rfl⟩

theorem wrote_set {w : World} {b : Nat} {g : Option Nat} (i : Nat) (u : Value) : Wrote w b g g (w.setCell ⟨b, i, none⟩ u) :=
  ⟨rfl, rfl, rfl, by simp [World.setCell], fun k _ hk _ => Below.heap_setCell _ _ _ _ hk, .inl rfl⟩

theorem copyCheck_any (b : Nat) (g : Option Nat) (l : List UInt8) (w : World) (h : Wr w b g l) :
    Calls Try.prog 69 #[.pointer (some ⟨b, 0, none⟩)] w fun e w' => e = .returned (.tuple #[]) ∧ WrP w' b g (.pointer (some ⟨b, 0, none⟩)) l ∧ Wrote w b g g w' := by
  rcases h with h | h
  · have hne := h.ne
    have h' := h
    obtain ⟨v, hb, hown, hg⟩ := h
    refine (copyCheck_fresh b w (Blk.cell hb 0) (by simp [World.shape?, hb]) (Blk.frozen hb 0)).mono ?_
    rintro e w' ⟨rfl, rfl⟩
    refine ⟨rfl, ⟨v, Blk.set_ hb 0 _, ?_, hg⟩, wrote_set 0 _⟩
    refine hown.kept (row := some b) ⟨rfl, rfl, rfl, by simp [World.setCell], fun k _ hk => Below.heap_setCell _ _ _ _ (fun e => hk (by simp [e]))⟩ (.inr (by rw [hg]; exact hne))
  · have h' := h
    obtain ⟨v, hb, hown, hg⟩ := h
    refine (copyCheck_used b w (Blk.cell hb 0)).mono ?_
    rintro e w' ⟨rfl, rfl⟩
    exact ⟨rfl, h', Wrote.refl _ _ _⟩
end Go.Proofs.Ytoiifcmjmjkcaaa

/- The walks of strings.Builder's WriteString, WriteByte, String on the builder that lies in an octet.Writer of the call's own. -/
namespace Go.Proofs.Ytoiifcmjmjkcaaa
set_option linter.unusedVariables false
set_option linter.unusedSimpArgs false
open Go.RowKit

theorem byteCells_append (a b : List UInt8) : Lib.byteCells (a ++ b) = Lib.byteCells a ++ Lib.byteCells b := by simp [Lib.byteCells]

/-- Behind an append the new buffer is stored into the writer. -/
theorem wr_store {w1 w2 : World} {b : Nat} {g : Option Nat} {v v' p : Value} {l' : List UInt8} (hb : w1.heap[b]? = some (.cells #[p, v] 83 (0, 0))) (hv : v.ownBlock = g) (hne : g ≠ some b)
    (hown : w2.ownsRowF 0 5 1 v' l'.length (Lib.byteCells l')) (hgrow : w1.grownBy w2 v.ownBlock) (hf : v'.ownBlock = v.ownBlock ∨ ∃ k, v'.ownBlock = some k ∧ w1.heap.size ≤ k) :
    WrP (w2.setCell ⟨b, 1, none⟩ v') b v'.ownBlock p l' ∧ Wrote w1 b g v'.ownBlock (w2.setCell ⟨b, 1, none⟩ v') := by
  have hlt : b < w1.heap.size := Blk.lt hb
  have hb2 : w2.heap[b]? = some (.cells #[p, v] 83 (0, 0)) := (hgrow.block b hlt (fun e => hne (by rw [← hv, e]))).trans hb
  have hne' : v'.ownBlock ≠ some b := Lib.ownBlock_neF hown hb2 (by decide)
  refine ⟨⟨v', Blk.set_ hb2 1 v', ?_, rfl⟩, ⟨hgrow.os, hgrow.tape, hgrow.output, by simpa [World.setCell] using hgrow.size, fun k hk hkb hkg => ?_, ?_⟩⟩
  · exact hown.kept (row := some b) ⟨rfl, rfl, rfl, by simp [World.setCell], fun k _ hk => Below.heap_setCell _ _ _ _ (fun e => hk (by simp [e]))⟩ (.inr hne')
  · exact (Below.heap_setCell _ _ _ _ hkb).trans (hgrow.block k hk (by rw [hv]; exact hkg))
  · rw [hv] at hf
    exact hf

set_option maxHeartbeats 2000000 in
set_option maxRecDepth 100000 in
theorem writeString_any (b : Nat) (g : Option Nat) (l : List UInt8) (s : ByteArray) (w : World) (h : Wr w b g l) (hlen : l.length + s.size ≤ 140737488355328) :
    Calls Try.prog 60 #[.pointer (some ⟨b, 0, none⟩), .string s] w fun e w' => e = .returned (.tuple #[.int .i64 s.size, .nilIface]) ∧ ∃ g', WrP w' b g' (.pointer (some ⟨b, 0, none⟩)) (l ++ s.data.toList) ∧ Wrote w b g g' w' := by
  obtain ⟨i0, hi, hz0, hz1, hz2⟩ := info_parts infoByte
  have hne := h.ne
  go_enter Try.func60, Try.ntmps60
  go_wp2_with fail
  refine (copyCheck_any b g l _ h).mono ?_
  rintro e w1 ⟨rfl, h1, k1⟩
  obtain ⟨v, hbk, hown, hg⟩ := h1
  have Hg := Lib.hid hg
  clear hg
  have c0 : w1.cell? ⟨b, 0, none⟩ = some (.pointer (some ⟨b, 0, none⟩)) := Blk.cell hbk 0
  have c1 : w1.cell? ⟨b, 1, none⟩ = some v := Blk.cell hbk 1
  go_wp2_with (at_builtin; refine wp_buf_string _ rfl _ _ 22 9 rfl 0 5 i0 Try.underlying22 Try.underlying9 hi hz0 hz1 hz2 _ _ _ rfl hown s rfl ?c3 ?c4 ?c5 ?_)
  case c3 => unfold maxLen; omega
  case c4 => omega
  case c5 => omega
  intro v' w2 hown' hgrow hfr
  rw [show Lib.strCells s = Lib.byteCells s.data.toList from rfl, ← byteCells_append] at hown'
  have hown2 : w2.ownsRowF 0 5 1 v' (l ++ s.data.toList).length (Lib.byteCells (l ++ s.data.toList)) := by simpa using hown'
  have hb2 : w2.heap[b]? = some (.cells #[.pointer (some ⟨b, 0, none⟩), v] 83 (0, 0)) := (hgrow.block b (Blk.lt hbk) (fun e => hne (by rw [← Hg.out, e]))).trans hbk
  have d1 : w2.cell? ⟨b, 1, none⟩ = some v := Blk.cell hb2 1
  have f1 : w2.frozen? ⟨b, 1, none⟩ = false := Blk.frozen hb2 1
  obtain ⟨k2, k3⟩ := wr_store hbk Hg.out hne hown2 hgrow hfr
  have hex : ∃ ao n' cap, v' = .slice ao n' cap := by
    rcases hown'.2 with ⟨hv, _⟩ | ⟨g, cap, cur, fz, hv, _⟩
    · exact ⟨_, _, _, hv⟩
    · exact ⟨_, _, _, hv⟩
  obtain ⟨ao, n', cap, rfl⟩ := hex
  clear hown' hown2 hgrow hfr hown
  have K2 := Lib.hid k2
  have K3 := Lib.hid (k1.trans k3)
  clear k1 k2 k3
  go_wp2
  go_ret2
  exact ⟨rfl, _, K2.out, K3.out⟩

set_option maxHeartbeats 2000000 in
set_option maxRecDepth 100000 in
theorem writeByte_any (b : Nat) (g : Option Nat) (l : List UInt8) (c : UInt8) (w : World) (h : Wr w b g l) (hlen : l.length + 1 ≤ 140737488355328) :
    Calls Try.prog 64 #[.pointer (some ⟨b, 0, none⟩), .int .u8 c.toNat] w fun e w' => e = .returned .nilIface ∧ ∃ g', WrP w' b g' (.pointer (some ⟨b, 0, none⟩)) (l ++ [c]) ∧ Wrote w b g g' w' := by
  obtain ⟨i0, hi, hz0, hz1, hz2⟩ := info_parts infoByte
  have hne := h.ne
  go_enter Try.func64, Try.ntmps64
  go_wp2_with fail
  refine (copyCheck_any b g l _ h).mono ?_
  rintro e w1 ⟨rfl, h1, k1⟩
  obtain ⟨v, hbk, hown, hg⟩ := h1
  have Hg := Lib.hid hg
  clear hg
  have c0 : w1.cell? ⟨b, 0, none⟩ = some (.pointer (some ⟨b, 0, none⟩)) := Blk.cell hbk 0
  have c1 : w1.cell? ⟨b, 1, none⟩ = some v := Blk.cell hbk 1
  go_wp2_with (at_builtin; refine wp_buf_cells _ rfl _ _ 22 rfl 0 5 i0 (.int .u8 0) 1 1 Try.underlying22 hi hz0 hz1 hz2 rfl (by decide) _ _ _ rfl (hown.alloc _) ⟨w1.heap.size, 0, none⟩ 1 1 [.int .u8 c.toNat] rfl rfl ?c1 ?c2 ?c3 ?c4 ?c5 ?_)
  case c1 =>
    intro j u hj
    match j, hj with
    | 0, hj => simp at hj; subst hj; simp [Addr.add]
  case c2 => intro u hu; simp at hu; subst hu; rfl
  case c3 => unfold maxLen; omega
  case c4 => omega
  case c5 => simp
  intro v' w2 hown' hgrow hfr
  have hown2 : w2.ownsRowF 0 5 1 v' (l ++ [c]).length (Lib.byteCells (l ++ [c])) := by simpa [Lib.byteCells] using hown'
  have hgrow' : w1.grownBy w2 v.ownBlock := ⟨hgrow.os, hgrow.tape, hgrow.output, by have := hgrow.size; (try simp at this); omega, fun k hk hne => (hgrow.block k (by (try simp); omega) hne).trans (Below.heap_alloc w1 _ k hk)⟩
  have hfr' : v'.ownBlock = v.ownBlock ∨ ∃ k, v'.ownBlock = some k ∧ w1.heap.size ≤ k := by
    rcases hfr with e | ⟨k, e, hk⟩
    · exact .inl e
    · exact .inr ⟨k, e, by (try simp at hk); omega⟩
  have hb2 : w2.heap[b]? = some (.cells #[.pointer (some ⟨b, 0, none⟩), v] 83 (0, 0)) := (hgrow'.block b (Blk.lt hbk) (fun e => hne (by rw [← Hg.out, e]))).trans hbk
  have d1 : w2.cell? ⟨b, 1, none⟩ = some v := Blk.cell hb2 1
  have f1 : w2.frozen? ⟨b, 1, none⟩ = false := Blk.frozen hb2 1
  obtain ⟨k2, k3⟩ := wr_store hbk Hg.out hne hown2 hgrow' hfr'
  have hex : ∃ ao n' cap, v' = .slice ao n' cap := by
    rcases hown'.2 with ⟨hv, _⟩ | ⟨g, cap, cur, fz, hv, _⟩
    · exact ⟨_, _, _, hv⟩
    · exact ⟨_, _, _, hv⟩
  obtain ⟨ao, n', cap, rfl⟩ := hex
  clear hown' hown2 hgrow hgrow' hfr hfr' hown
  have K2 := Lib.hid k2
  have K3 := Lib.hid (k1.trans k3)
  clear k1 k2 k3
  go_wp2
  go_ret
  exact ⟨rfl, _, K2.out, K3.out⟩

theorem wrote_freeze {w : World} {b k : Nat} (n : Nat) : Wrote w b (some k) (some k) (w.freeze ⟨k, 0, none⟩ n) := by
  unfold World.freeze
  split
  · exact Wrote.refl _ _ _
  · exact ⟨rfl, rfl, rfl, by simp, fun i _ _ hi => by
      simp only [Array.getElem?_modify]
      rw [if_neg (fun e => hi (by rw [e]))], .inl rfl⟩

/-- String of a writer that holds at least one byte. -/
theorem string_some (b : Nat) (g : Option Nat) (l : List UInt8) (w : World) (h : Wr w b g l) (h0 : l ≠ []) :
    Calls Try.prog 62 #[.pointer (some ⟨b, 0, none⟩)] w fun e w' => e = .returned (.string ⟨l.toArray⟩) ∧ Wr w' b g l ∧ Wrote w b g g w' := by
  obtain ⟨p, hp, v, hbk, hown, hg⟩ : ∃ p, (p = .pointer none ∨ p = .pointer (some ⟨b, 0, none⟩)) ∧ WrP w b g p l := by
    rcases h with h | h
    · exact ⟨_, .inl rfl, h⟩
    · exact ⟨_, .inr rfl, h⟩
  have hne := h.ne
  have hl0 : l.length ≠ 0 := by simpa using h0
  obtain ⟨k, cap, cur, fz, rfl, _, hk, hfz, hnc, hcm, hcs, htake⟩ : ∃ k cap cur fz, v = .slice (some ⟨k, 0, none⟩) l.length cap ∧ 0 ≤ k ∧ w.heap[k]? = some (.cells cur 5 fz) ∧ fz.2 ≤ l.length * 1 ∧ l.length ≤ cap ∧ cap ≤ maxLen ∧ cur.size = cap * 1 ∧ cur.toList.take (l.length * 1) = Lib.byteCells l := by
    rcases hown.2 with ⟨_, hz⟩ | ⟨g, cap, cur, fz, hv, r⟩
    · exact absurd hz hl0
    · exact ⟨g, cap, cur, fz, hv, r⟩
  have c1 : w.drew.cell? ⟨b, 1, none⟩ = some (.slice (some ⟨k, 0, none⟩) l.length cap) := Blk.cell (w := w.drew) hbk 1
  have hSD : (Builtin.unsafeSliceData_ #[22] 114 #[.slice (some ⟨k, 0, none⟩) l.length cap]).run Try.prog w.drew = .ok (.pointer (some ⟨k, 0, none⟩)) w.drew :=
    Lib.run_unsafeSliceData_row _ _ _ _ _ _ (by omega)
  have hUS : (Builtin.unsafeString_ #[114, 3] 9 #[.pointer (some ⟨k, 0, none⟩), .int .i64 l.length]).run Try.prog w.drew = .ok (.string ⟨l.toArray⟩) (w.drew.freeze ⟨k, 0, none⟩ l.length) := by
    refine Lib.run_unsafeString_row w.drew 114 3 9 5 Try.underlying114 cellsByte k cur.size (by have hg' : w.drew.heap[k]? = some (.cells cur 5 fz) := hk; simp [World.shape?, hg']) l h0 (by omega) (by unfold maxLen at hcm; omega) ?_
    intro j x hx
    have := hown.cells (g := k) rfl j (.int .u8 x.toNat) (by simp [Lib.byteCells, hx])
    exact this
  have hg' : g = some k := by rw [← hg]; rfl
  have hkeep : Wr (w.drew.freeze ⟨k, 0, none⟩ l.length) b g l := by
    have hA : Lib.BuilderAtF 83 5 0 b p (Lib.byteCells l) w.drew := ⟨Nat.zero_le _, _, hbk, by rw [Lib.byteCells_length]; exact hown, by rw [hg]; exact hne⟩
    have hF := hA.froze (g := k) (cap := cap) (by rw [Lib.byteCells_length]; exact c1)
    rw [Lib.byteCells_length] at hF
    obtain ⟨_, v, x1, x2, _⟩ := hF
    have hv : v = .slice (some ⟨k, 0, none⟩) l.length cap := by
      have y := Blk.cell (w := w.drew.freeze ⟨k, 0, none⟩ l.length) x1 1
      have hbb : (w.drew.freeze ⟨k, 0, none⟩ l.length).heap[b]? = w.heap[b]? := (wrote_freeze (w := w.drew) (b := k) (k := k) l.length).block b (by have := h.lt; simpa using this) (fun e => hne (by rw [hg', e])) (fun e => hne (by rw [hg', ← e]))
      rw [hbb, hbk] at x1
      injection x1 with x1
      injection x1 with x1
      simp at x1
      exact x1.symm
    subst hv
    rw [Lib.byteCells_length] at x2
    rcases hp with rfl | rfl
    · exact .inl ⟨_, x1, x2, hg⟩
    · exact .inr ⟨_, x1, x2, hg⟩
  have hW : Wrote w b g g (w.drew.freeze ⟨k, 0, none⟩ l.length) := by
    rw [hg']
    exact (Wrote.refl w b (some k)).drew.trans (wrote_freeze _)
  have HK := Lib.hid hkeep
  have HW := Lib.hid hW
  clear hkeep hW hg hg'
  go_enter Try.func62, Try.ntmps62
  go_wp2
  go_region
  all_goals (go_wp2; go_ret; exact ⟨rfl, HK.out, HW.out⟩)
end Go.Proofs.Ytoiifcmjmjkcaaa

/- The walks of octet.Writer: Put, Text, String. -/
namespace Go.Proofs.Ytoiifcmjmjkcaaa
set_option linter.unusedVariables false
set_option linter.unusedSimpArgs false
open Go.RowKit

def clampSize (n : Int) : Nat := (min (max n 1) 8).toNat

theorem u8_of (m : Nat) : IntKind.u8.wrap (m : Int) = ((UInt8.ofNat m).toNat : Int) := by
  simp [IntKind.wrap, IntKind.bits, IntKind.signed]

theorem width_any (n : Int) (w : World) : Calls Try.prog 63 #[.int .i64 n] w fun e w' => e = .returned (.int .i64 (clampSize n)) ∧ w = w' := by
  go_enter Try.func63, Try.ntmps63
  by_cases h0 : n < 1
  · go_wp2
    all_goals
      go_ret
      exact ⟨ret_int (by unfold clampSize; omega), rfl⟩
  · by_cases h8 : 8 < n
    · go_wp2
      all_goals
        go_ret
        exact ⟨ret_int (by unfold clampSize; omega), rfl⟩
    · go_wp2
      all_goals
        go_ret
        exact ⟨ret_int (by unfold clampSize; omega), rfl⟩

theorem text_any (b : Nat) (g : Option Nat) (l : List UInt8) (s : ByteArray) (w : World) (h : Wr w b g l) (hlen : l.length + s.size ≤ 140737488355328) :
    Calls Try.prog 45 #[.pointer (some ⟨b, 0, none⟩), .string s] w fun e w' => e = .returned (.tuple #[]) ∧ ∃ g', Wr w' b g' (l ++ s.data.toList) ∧ Wrote w b g g' w' := by
  go_enter Try.func45, Try.ntmps45
  go_wp2_with fail
  refine (writeString_any b g l s _ h hlen).mono ?_
  rintro e w1 ⟨rfl, g1, h1, k1⟩
  go_wp2_with fail
  go_end0
  exact ⟨rfl, g1, .inr h1, k1⟩

theorem ostring_some (b : Nat) (g : Option Nat) (l : List UInt8) (w : World) (h : Wr w b g l) (h0 : l ≠ []) :
    Calls Try.prog 47 #[.pointer (some ⟨b, 0, none⟩)] w fun e w' => e = .returned (.string ⟨l.toArray⟩) ∧ Wr w' b g l ∧ Wrote w b g g w' := by
  go_enter Try.func47, Try.ntmps47
  go_wp2_with fail
  refine (string_some b g l _ h h0).mono ?_
  rintro e w1 ⟨rfl, h1, k1⟩
  go_wp2_with fail
  go_ret
  exact ⟨rfl, h1, k1⟩

set_option maxHeartbeats 1000000 in
theorem put_any (b : Nat) (g : Option Nat) (l : List UInt8) (n : Nat) (size : Int) (w : World) (hn : n < 18446744073709551616) (h : Wr w b g l) (hlen : l.length + 8 ≤ 140737488355328) :
    Calls Try.prog 44 #[.pointer (some ⟨b, 0, none⟩), .int .u64 n, .int .i64 size] w fun e w' => e = .returned (.tuple #[]) ∧ ∃ g', Wr w' b g' (l ++ le n (clampSize size)) ∧ Wrote w b g g' w' := by
  have hk8 : clampSize size ≤ 8 := by unfold clampSize; omega
  go_enter Try.func44, Try.ntmps44
  go_wp2_with fail
  refine (width_any _ _).mono ?_
  rintro e w1 ⟨rfl, rfl⟩
  generalize hk : clampSize size = k at hk8 ⊢
  have Hk := Lib.hid hk
  clear hk
  go_wp2_with fail
  go_loopw [1, 10] (fun m i wr => ∃ (j M : Nat) (gj : Option Nat), j ≤ k ∧ m = .int .u64 M ∧ i = .int .i64 j ∧ Hid (M = n / 256 ^ j) ∧ M < 18446744073709551616 ∧ Wr wr b gj (l ++ le n j) ∧ Wrote w b g gj wr) (fun _ i _ => k - (intOf i).toNat)
  case atStart => exact ⟨0, n, g, by omega, rfl, rfl, by simp [Hid], hn, by simpa [le] using h, Wrote.refl _ _ _⟩
  case round =>
    obtain ⟨j, M, gj, hj, rfl, rfl, hM, hM1, hW, hR⟩ := hrel
    clear h
    by_cases hlt : j < k
    · have e1 := u8_of M
      go_wp2_with fail
      refine (writeByte_any b gj (l ++ le n j) (UInt8.ofNat M) _ hW (by rw [List.length_append, le_length]; omega)).mono ?_
      rintro e w2 ⟨rfl, g2, h2, k2⟩
      clear e1
      go_wp2_with fail
      go_roundw
      case rel =>
        refine ⟨j + 1, M / 256, g2, by omega, by go_num, by go_num, ?_, by omega, ?_, hR.trans k2⟩
        · show M / 256 = n / 256 ^ (j + 1)
          rw [hM.out, Nat.div_div_eq_div_mul, Nat.pow_succ]
        · rw [le, ← List.append_assoc, ← hM.out]
          exact .inr h2
      case measure => simp [intOf]; omega
    · obtain rfl : j = k := by omega
      go_wp2_with fail
      go_end0
      exact ⟨rfl, gj, by rw [Hk.out]; exact hW, hR⟩
end Go.Proofs.Ytoiifcmjmjkcaaa

/- Plain lemmas on uint64 bits in the walk's spelling. -/
namespace Go.Proofs.Ytoiifcmjmjkcaaa
set_option linter.unusedVariables false
set_option linter.unusedSimpArgs false
open Go.RowKit

theorem and_u64 (x m M : Int) (n : Nat) (hM : M = ((2 ^ n : Nat) : Int)) (hm : m + 1 = M) (hn : M ≤ 9223372036854775808) (h0 : 0 ≤ x) (h1 : x ≤ 18446744073709551615) : bits .and .u64 x m = x % M := by
  have hp : 0 < 2 ^ n := Nat.two_pow_pos n
  obtain ⟨X, rfl⟩ := Int.eq_ofNat_of_zero_le h0
  have e : m = ((2 ^ n - 1 : Nat) : Int) := by omega
  rw [e, u64_and_nat X (2 ^ n - 1) (by omega) (by omega), Nat.and_two_pow_sub_one_eq_mod, hM]
  rfl

theorem or_u64 (a b M : Int) (n : Nat) (hM : M = ((2 ^ n : Nat) : Int)) (ha0 : 0 ≤ a) (ha : a < M) (hb0 : 0 ≤ b) (hb1 : b ≤ 18446744073709551615) (ha1 : a ≤ 18446744073709551615) (hb : b % M = 0) : bits .or .u64 a b = a + b := by
  obtain ⟨A, rfl⟩ := Int.eq_ofNat_of_zero_le ha0
  obtain ⟨B, rfl⟩ := Int.eq_ofNat_of_zero_le hb0
  rw [u64_or_nat A B (by omega) (by omega)]
  subst hM
  have h1 : B % 2 ^ n = 0 := by exact_mod_cast hb
  have h2 : A < 2 ^ n := by omega
  rw [Nat.or_comm, nat_join n B A h1 h2]
  omega

/-- A bit set between a low part and a high one. -/
theorem or_mid_u64 (lo hi M N : Int) (n m : Nat) (hM : M = ((2 ^ n : Nat) : Int)) (hN : N = ((2 ^ m : Nat) : Int)) (hl0 : 0 ≤ lo) (hl : lo < M) (hh0 : 0 ≤ hi) (hh : hi % N = 0) (hMN : M + M ≤ N) (hs : lo + M + hi ≤ 18446744073709551615) : bits .or .u64 (lo + hi) M = lo + hi + M := by
  obtain ⟨L, rfl⟩ := Int.eq_ofNat_of_zero_le hl0
  obtain ⟨H, rfl⟩ := Int.eq_ofNat_of_zero_le hh0
  subst hM hN
  have e1 : ((L : Int) + H) = ((H + L : Nat) : Int) := by omega
  have h1 : H % 2 ^ m = 0 := by exact_mod_cast hh
  rw [e1, u64_or_nat (H + L) (2 ^ n) (by omega) (by omega)]
  rw [← nat_join m H L h1 (by omega), Nat.or_assoc, Nat.or_comm L, nat_join n (2 ^ n) L (by simp) (by omega), nat_join m H _ h1 (by omega), nat_join m H L h1 (by omega)]
  omega
end Go.Proofs.Ytoiifcmjmjkcaaa

/- The walks of package castle: step, Sum, Seal, Open. -/
namespace Go.Proofs.Ytoiifcmjmjkcaaa
set_option linter.unusedVariables false
set_option linter.unusedSimpArgs false
open Go.RowKit

theorem and1_u32 (c : Nat) (h : c < 4294967296) : bits .and .u32 (c : Int) 1 = ((c % 2 : Nat) : Int) := by
  have := u32_and_nat c 1 h (by decide)
  rw [Nat.and_one_is_mod] at this
  exact this
theorem xor_u32 (c d : Nat) (h : c < 4294967296) (hd : d < 4294967296) : bits .xor .u32 (c : Int) (d : Int) = ((c ^^^ d : Nat) : Int) := u32_xor_nat c d h hd

set_option maxHeartbeats 1000000 in
theorem step_any (c : Nat) (b : UInt8) (w : World) (hc : c < 4294967296) : Calls Try.prog 42 #[.int .u32 c, .int .u8 b.toNat] w fun e w' => e = .returned (.int .u32 (crcStep c b.toNat)) ∧ w = w' := by
  have hb := b.toNat_lt
  have e0 := xor_u32 c b.toNat hc (by omega)
  have hx : c ^^^ b.toNat < 4294967296 := Nat.xor_lt_two_pow (n := 32) hc (by omega)
  go_enter Try.func42, Try.ntmps42
  go_wp2_with fail
  go_loop [0, 9] (fun x i => ∃ (k X : Nat), k ≤ 8 ∧ i = .int .i64 k ∧ x = .int .u32 X ∧ X < 4294967296 ∧ Hid (X = crcIt k (c ^^^ b.toNat))) (fun _ i => 8 - (intOf i).toNat)
  case atStart => exact ⟨0, _, by omega, rfl, rfl, hx, rfl⟩
  case round =>
    obtain ⟨k, X, hk, rfl, rfl, hX, HX⟩ := hrel
    clear e0 hx
    by_cases hlt : k < 8
    · have e1 : bits .and .u32 (X : Int) 1 = (X : Int) % 2 := (and1_u32 X hX).trans (by omega)
      by_cases hp : X % 2 = 1
      · have e4 : ((X : Int) % 2 == 1) = true := by simp; omega
        obtain ⟨Y, hY⟩ : ∃ Y, Y = (X / 2) ^^^ 2197175160 := ⟨_, rfl⟩
        have hY1 : Y < 4294967296 := by rw [hY]; exact Nat.xor_lt_two_pow (n := 32) (by omega) (by decide)
        have e2 : bits .xor .u32 ((X : Int) / 2) 2197175160 = (Y : Int) := by
          rw [hY, ← xor_u32 (X / 2) 2197175160 (by omega) (by decide), show ((X / 2 : Nat) : Int) = (X : Int) / 2 by omega]
          rfl
        have HY := Lib.hid hY
        clear hY
        go_wp2_with fail
        go_round
        case rel =>
          refine ⟨k + 1, Y, by omega, by go_num, rfl, hY1, ?_⟩
          show Y = crcT (crcIt k (c ^^^ b.toNat))
          rw [← HX.out, crcT, if_pos hp, HY.out]
        case measure => simp [intOf]; omega
      · have e4 : ((X : Int) % 2 == 1) = false := by simp; omega
        go_wp2_with fail
        go_round
        case rel =>
          refine ⟨k + 1, X / 2, by omega, by go_num, by go_num, by omega, ?_⟩
          show X / 2 = crcT (crcIt k (c ^^^ b.toNat))
          rw [← HX.out, crcT, if_neg hp]
        case measure => simp [intOf]; omega
    · obtain rfl : k = 8 := by omega
      go_wp2_with fail
      go_ret
      exact ⟨ret_int (by rw [HX.out]; rfl), rfl⟩

theorem crc_snoc (s : ByteArray) (k : Nat) (h : k < s.size) : crcState 4294967295 (s.data.toList.take (k + 1)) = crcStep (crcState 4294967295 (s.data.toList.take k)) (s.data.toList.getD k 0).toNat := by
  have hl : k < s.data.toList.length := by simpa using h
  rw [List.take_succ_eq_append_getElem hl, crcState_append]
  simp only [crcState, List.foldl_cons, List.foldl_nil, List.getD, List.getElem?_eq_getElem hl, Option.getD_some]

set_option maxRecDepth 10000 in
set_option maxHeartbeats 1000000 in
theorem sum_any (s : ByteArray) (w : World) (hs : s.size ≤ 140737488355328) :
    Calls Try.prog 28 #[.string s] w fun e w' => e = .returned (.int .u32 (crcSum s.data.toList)) ∧ Below w.heap.size w w' := by
  obtain ⟨C, c, fz, hcv, hC, hc1, hc2, hc3, hfz⟩ := conv_bytes s w (by unfold maxLen; omega)
  have hCell : ∀ i, i < s.size → (w.alloc (.cells C 5 fz)).cell? ⟨w.heap.size, i, none⟩ = some (.int .u8 ((s.data.toList.getD i 0).toNat : Int)) := by
    intro i hi
    have := (cell_of_row (w.alloc (.cells C 5 fz)) w.heap.size i C 5 fz (heap_alloc_new w _)).trans (hC i)
    rw [this, if_pos hi]
  have HC := Lib.hid hCell
  clear hC hc3 hfz hCell
  go_enter Try.func28, Try.ntmps28
  go_wp2_with fail
  go_loop [3, 5, 9] (fun x _ i => ∃ (k X : Nat), k ≤ s.size ∧ i = .int .i64 k ∧ x = .int .u32 X ∧ X < 4294967296 ∧ Hid (X = crcState 4294967295 (s.data.toList.take k))) (fun _ _ i => s.size - (intOf i).toNat)
  case atStart => exact ⟨0, 4294967295, by omega, rfl, rfl, by omega, by simp [Hid, crcState]⟩
  case round =>
    obtain ⟨k, X, hk, rfl, rfl, hX, HX⟩ := hrel
    by_cases hlt : k < s.size
    · have hcell := HC.out k hlt
      have HS := Lib.hid (crc_snoc s k hlt)
      generalize s.data.toList.getD k 0 = b at hcell HS
      go_wp2_with fail
      refine (step_any X b _ hX).mono ?_
      rintro e w1 ⟨rfl, rfl⟩
      go_wp2_with fail
      go_round
      case rel => exact ⟨k + 1, crcStep X b.toNat, by omega, by go_num, rfl, crcStep_lt hX b.toNat_lt, by show _ = _; rw [HS.out, HX.out]⟩
      case measure => simp [intOf]; omega
    · obtain rfl : k = s.size := by omega
      have e1 : bits .xor .u32 (X : Int) 4294967295 = ((crcSum s.data.toList : Nat) : Int) := by
        have h1 := xor_u32 X 4294967295 hX (by decide)
        have h2 : X ^^^ 4294967295 = crcSum s.data.toList := by
          rw [HX.out, List.take_of_length_le (by simp)]; rfl
        rw [h2] at h1
        exact h1
      generalize hZ : crcSum s.data.toList = Z at e1 ⊢
      have HZ := Lib.hid hZ
      clear hZ
      go_wp2_with fail
      go_ret
      exact ⟨ret_int (by rw [HZ.out]), by (repeat (first | with_reducible exact Below.refl _ _ | with_reducible assumption | with_reducible apply Below.drew | with_reducible apply below_drewN | (with_reducible refine below_set ?_ ?_; focus ((try simp); (try omega); done)) | (with_reducible refine below_new ?_ ?_; focus ((try simp); (try omega); done))))⟩

def sealL (l : List UInt8) : List UInt8 := l ++ le (crcSum l) 4
theorem sealL_length (l : List UInt8) : (sealL l).length = l.length + 4 := by simp [sealL, le_length]

theorem wr_range {w w' : World} {b : Nat} {g g' : Option Nat} (h : Wrote w b g g' w') (hA : ∀ k, g = some k → b ≤ k) (hb : b ≤ w.heap.size) : ∀ k, g' = some k → b ≤ k := h.own_from hb hA

set_option maxHeartbeats 1000000 in
theorem seal_any (s : ByteArray) (w : World) (hs : s.size ≤ 1099511627776) :
    Calls Try.prog 46 #[.string s] w fun e w' => e = .returned (.string ⟨(sealL s.data.toList).toArray⟩) ∧ Below w.heap.size w w' := by
  have hsz : s.data.toList.length = s.size := by simp
  have Hsz := Lib.hid hsz
  clear hsz
  go_enter Try.func46, Try.ntmps46
  go_wp2_with fail
  have h0 : Wr (w.alloc (.cells #[.pointer none, .slice none 0 0] 83)) w.heap.size none [] := Wr.new_ rfl
  have b0 : Below w.heap.size w (w.alloc (.cells #[.pointer none, .slice none 0 0] 83)) := by (repeat (first | with_reducible exact Below.refl _ _ | with_reducible assumption | with_reducible apply Below.drew | with_reducible apply below_drewN | (with_reducible refine below_set ?_ ?_; focus ((try simp); (try omega); done)) | (with_reducible refine below_new ?_ ?_; focus ((try simp); (try omega); done))))
  refine (text_any w.heap.size none [] s _ h0 (by simp; omega)).mono ?_
  rintro e w1 ⟨rfl, g1, h1, k1⟩
  have r1 := wr_range k1 (fun k e => by cases e) (by simp)
  have b1 := k1.below b0 (by simp) (Nat.le_refl _) (fun k e => by cases e)
  have z1 := b1.size
  clear h0 b0 k1
  go_wp2_with fail
  refine (sum_any s _ (by omega)).mono ?_
  rintro e w2 ⟨rfl, hb2⟩
  have h2 := h1.below hb2
  have b2 : Below w.heap.size w w2 := b1.trans (hb2.mono z1)
  have z2 := b2.size
  clear h1 b1 hb2 z1
  have hlt := crcSum_lt s.data.toList
  generalize hZ : crcSum s.data.toList = Z at hlt ⊢
  have HZ := Lib.hid hZ
  clear hZ
  go_wp2_with fail
  refine (put_any w.heap.size g1 _ Z 4 _ (by omega) h2 (by rw [List.nil_append, Hsz.out]; omega)).mono ?_
  rintro e w3 ⟨rfl, g3, h3, k3⟩
  have r3 := wr_range k3 r1 z2
  have b3 := k3.below b2 z2 (Nat.le_refl _) r1
  have z3 := b3.size
  clear h2 k3 b2 z2
  have hne : [] ++ s.data.toList ++ le Z (clampSize 4) ≠ [] := by
    intro e
    have := congrArg List.length e
    rw [List.length_append, le_length, show clampSize 4 = 4 by decide] at this
    simp at this
  have HN := Lib.hid hne
  clear hne
  go_wp2_with fail
  refine (ostring_some w.heap.size g3 _ _ h3 HN.out).mono ?_
  rintro e w4 ⟨rfl, h4, k4⟩
  have b4 := k4.below b3 z3 (Nat.le_refl _) r3
  clear h3 h4 k4 b3 z3 HN
  go_wp2_with fail
  go_ret
  exact ⟨by rw [← HZ.out]; rfl, b4⟩

/-- The bytes ahead of a sum that is theirs. -/
def openL (l : List UInt8) : Bool := decide (4 ≤ l.length) && decide (sealL (l.take (l.length - 4)) = l)

set_option maxHeartbeats 1000000 in
theorem open_short (s : ByteArray) (w : World) (hs : s.size < 4) :
    Calls Try.prog 49 #[.string s] w fun e w' => e = .returned (.tuple #[.string ⟨#[]⟩, .bool false]) ∧ Below w.heap.size w w' := by
  go_enter Try.func49, Try.ntmps49
  go_wp2_with fail
  go_ret2
  exact ⟨rfl, by (repeat (first | with_reducible exact Below.refl _ _ | with_reducible assumption | with_reducible apply Below.drew | with_reducible apply below_drewN | (with_reducible refine below_set ?_ ?_; focus ((try simp); (try omega); done)) | (with_reducible refine below_new ?_ ?_; focus ((try simp); (try omega); done))))⟩

theorem bytes_eta (s : ByteArray) : (⟨s.data.toList.toArray⟩ : ByteArray) = s := by simp
theorem str_ext {q s : ByteArray} (h : q.data.toList = s.data.toList) : q = s := by rw [← bytes_eta q, h, bytes_eta]
theorem str_ne {q s : ByteArray} (h : ¬ q = s) : (q.toList == s.toList) = false := by
  rw [beq_eq_false_iff_ne, ByteArray.toList_eq, ByteArray.toList_eq]
  exact fun e => h (str_ext e)
theorem cut_data (s : ByteArray) (n : Nat) (h : n ≤ s.size) : (s.extract 0 n).data.toList = s.data.toList.take n := by
  have := Lib.extract_data s 0 n
  rw [this, List.drop_zero, Nat.sub_zero]
theorem cut_eq (s : ByteArray) (n : Nat) (h : n ≤ s.size) : s.extract 0 n = ⟨(s.data.toList.take n).toArray⟩ := by
  rw [← cut_data s n h, bytes_eta]

theorem seal_cut (s q : ByteArray) (w : World) (hs : 4 ≤ s.size) (hs2 : s.size ≤ 1099511627776) (h : (⟨(sealL (s.data.toList.take (s.size - 4))).toArray⟩ : ByteArray) = q) :
    Calls Try.prog 46 #[.string (s.extract 0 (s.size - 4))] w fun e w' => e = .returned (.string q) ∧ Below w.heap.size w w' := by
  have := seal_any (s.extract 0 (s.size - 4)) w (by rw [ByteArray.size_extract]; omega)
  rw [cut_data s _ (by omega), h] at this
  exact this

set_option maxHeartbeats 1000000 in
theorem open_yes (s : ByteArray) (w : World) (hs : 4 ≤ s.size) (hs2 : s.size ≤ 1099511627776) (h : sealL (s.data.toList.take (s.size - 4)) = s.data.toList) :
    Calls Try.prog 49 #[.string s] w fun e w' => e = .returned (.tuple #[.string ⟨(s.data.toList.take (s.size - 4)).toArray⟩, .bool true]) ∧ Below w.heap.size w w' := by
  have H := Lib.hid (fun W => seal_cut s s W hs hs2 (by rw [h, bytes_eta]))
  clear h
  go_enter Try.func49, Try.ntmps49
  go_wp2_with fail
  refine (H.out _).mono ?_
  rintro e w1 ⟨rfl, hb⟩
  go_wp2_with fail
  go_ret2
  exact ⟨by rw [← cut_eq s (s.size - 4) (by omega)]; rfl, hb⟩

set_option maxHeartbeats 1000000 in
theorem open_no (s : ByteArray) (w : World) (hs : 4 ≤ s.size) (hs2 : s.size ≤ 1099511627776) (h : ¬ sealL (s.data.toList.take (s.size - 4)) = s.data.toList) :
    Calls Try.prog 49 #[.string s] w fun e w' => e = .returned (.tuple #[.string ⟨#[]⟩, .bool false]) ∧ Below w.heap.size w w' := by
  obtain ⟨q, hq⟩ : ∃ q : ByteArray, (⟨(sealL (s.data.toList.take (s.size - 4))).toArray⟩ : ByteArray) = q := ⟨_, rfl⟩
  have hne : (q.toList == s.toList) = false := str_ne (fun e => h (by rw [e] at hq; have := congrArg (fun x : ByteArray => x.data.toList) hq; simpa using this))
  have H := Lib.hid (fun W => seal_cut s q W hs hs2 hq)
  clear h hq
  go_enter Try.func49, Try.ntmps49
  go_wp2_with fail
  refine (H.out _).mono ?_
  rintro e w1 ⟨rfl, hb⟩
  go_wp2_with fail
  go_ret2
  exact ⟨rfl, hb⟩
end Go.Proofs.Ytoiifcmjmjkcaaa
