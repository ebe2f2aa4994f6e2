/- The walks of strings.Builder's methods on the builder of the call's own. -/
import Derived.Test.YtakkhglbdljfiaaGreatDoorKStoreShadows06
import Derived.RegionTactic
import Derived.Test.YtakkhglbdljfiaaGreatDoorKStoreShadows08
namespace Go.Proofs.YtakkhglbdljfiaaGreatDoor
set_option linter.unusedVariables false
set_option linter.unusedSimpArgs false
open Go.RowKit

/-- Block b is a Writer that holds the bytes l; its buffer is block g (none: it has none yet). 'p': what the builder's 'addr' holds. -/
def WrPS (w : World) (b : Nat) (g : Option Nat) (p : Value) (l : List UInt8) : Prop :=
  ∃ v, w.heap[b]? = some (.cells #[p, v] 130 (0, 0)) ∧ w.ownsRowF 0 5 1 v l.length (Lib.byteCells l) ∧ v.ownBlock = g
def WrS (w : World) (b : Nat) (g : Option Nat) (l : List UInt8) : Prop := WrPS w b g (.pointer none) l ∨ WrPS w b g (.pointer (some ⟨b, 0, none⟩)) l

/-- Of what was there nothing has turned but block b and its buffer g; the buffer is now g', the old one or a new one. -/
structure WroteS (w : World) (b : Nat) (g g' : Option Nat) (w' : World) : Prop where
  os : w'.os = w.os
  tape : w'.tape = w.tape
  output : w'.output = w.output
  size : w.heap.size ≤ w'.heap.size
  block : ∀ k, k < w.heap.size → k ≠ b → some k ≠ g → w'.heap[k]? = w.heap[k]?
  own : g' = g ∨ ∃ k, g' = some k ∧ w.heap.size ≤ k

theorem WroteS.refl (w : World) (b : Nat) (g : Option Nat) : WroteS w b g g w := ⟨rfl, rfl, rfl, Nat.le_refl _, fun _ _ _ _ => rfl, .inl rfl⟩
theorem WroteS.trans {a c d : World} {b : Nat} {g g' g'' : Option Nat} (h : WroteS a b g g' c) (k : WroteS c b g' g'' d) : WroteS a b g g'' d := by
  refine ⟨k.os.trans h.os, k.tape.trans h.tape, k.output.trans h.output, Nat.le_trans h.size k.size, fun i hi hb hg => ?_, ?_⟩
  · refine (k.block i (Nat.lt_of_lt_of_le hi h.size) hb ?_).trans (h.block i hi hb hg)
    rcases h.own with rfl | ⟨j, rfl, hj⟩
    · exact hg
    · intro e
      injection e with e
      omega
  · rcases k.own with rfl | ⟨j, rfl, hj⟩
    · exact h.own
    · exact .inr ⟨j, rfl, Nat.le_trans h.size hj⟩
theorem WroteS.drew {a c : World} {b : Nat} {g g' : Option Nat} (h : WroteS a b g g' c) : WroteS a b g g' c.drew := ⟨h.os, h.tape, h.output, h.size, h.block, h.own⟩
/-- Both the writer and its buffer lie from B on: below B nothing has turned. -/
theorem WroteS.below {A w w' : World} {B b : Nat} {g g' : Option Nat} (h : WroteS w b g g' w') (hA : Below B A w) (hB : B ≤ w.heap.size) (hb : B ≤ b) (hg : ∀ k, g = some k → B ≤ k) : Below B A w' :=
  hA.trans ⟨h.os, h.tape, h.output, h.size, fun k hk => h.block k (by omega) (by omega) (fun e => by have := hg k e.symm; omega)⟩
theorem WroteS.own_from {w w' : World} {B b : Nat} {g g' : Option Nat} (h : WroteS w b g g' w') (hB : B ≤ w.heap.size) (hg : ∀ k, g = some k → B ≤ k) : ∀ k, g' = some k → B ≤ k := by
  intro k hk
  rcases h.own with e | ⟨j, e, hj⟩
  · exact hg k (e ▸ hk)
  · rw [hk] at e; injection e with e; omega

theorem WrPS.lt {w : World} {b : Nat} {g : Option Nat} {p : Value} {l : List UInt8} (h : WrPS w b g p l) : b < w.heap.size := by
  obtain ⟨v, hb, _⟩ := h
  exact Blk.lt hb
theorem WrPS.ne {w : World} {b : Nat} {g : Option Nat} {p : Value} {l : List UInt8} (h : WrPS w b g p l) : g ≠ some b := by
  obtain ⟨v, hb, hown, rfl⟩ := h
  exact Lib.ownBlock_neF hown hb (by decide)
theorem WrPS.own_lt {w : World} {b : Nat} {g : Option Nat} {p : Value} {l : List UInt8} (h : WrPS w b g p l) : ∀ k, g = some k → k < w.heap.size := by
  obtain ⟨v, hb, hown, rfl⟩ := h
  exact fun k hk => (hown.lt k hk).2
/-- Kept where neither block has turned. -/
theorem WrPS.keep {w w' : World} {b : Nat} {g : Option Nat} {p : Value} {l : List UInt8} (h : WrPS w b g p l) (hb : w'.heap[b]? = w.heap[b]?) (hg : ∀ k, g = some k → w'.heap[k]? = w.heap[k]?) : WrPS w' b g p l := by
  obtain ⟨v, h1, h2, h3⟩ := h
  refine ⟨v, hb.trans h1, ⟨h2.1, ?_⟩, h3⟩
  rcases h2.2 with hn | ⟨g', cap, cur, fz, rfl, hbg, hgg, rest⟩
  · exact .inl hn
  · exact .inr ⟨g', cap, cur, fz, rfl, hbg, (hg g' (by rw [← h3]; rfl)).trans hgg, rest⟩
theorem WrS.lt {w : World} {b : Nat} {g : Option Nat} {l : List UInt8} (h : WrS w b g l) : b < w.heap.size := h.elim WrPS.lt WrPS.lt
theorem WrS.ne {w : World} {b : Nat} {g : Option Nat} {l : List UInt8} (h : WrS w b g l) : g ≠ some b := h.elim WrPS.ne WrPS.ne
theorem WrS.own_lt {w : World} {b : Nat} {g : Option Nat} {l : List UInt8} (h : WrS w b g l) : ∀ k, g = some k → k < w.heap.size := h.elim WrPS.own_lt WrPS.own_lt
theorem WrS.keep {w w' : World} {b : Nat} {g : Option Nat} {l : List UInt8} (h : WrS w b g l) (hb : w'.heap[b]? = w.heap[b]?) (hg : ∀ k, g = some k → w'.heap[k]? = w.heap[k]?) : WrS w' b g l :=
  h.elim (fun h => .inl (h.keep hb hg)) (fun h => .inr (h.keep hb hg))
theorem WrS.drew {w : World} {b : Nat} {g : Option Nat} {l : List UInt8} (h : WrS w b g l) : WrS w.drew b g l := h
theorem WrS.alloc {w : World} {b : Nat} {g : Option Nat} {l : List UInt8} (h : WrS w b g l) (o : Obj) : WrS (w.alloc o) b g l :=
  h.keep (Below.heap_alloc w o b h.lt) (fun k hk => Below.heap_alloc w o k (h.own_lt k hk))
theorem WrS.below {w w' : World} {b : Nat} {g : Option Nat} {l : List UInt8} (h : WrS w b g l) (hb : Below w.heap.size w w') : WrS w' b g l :=
  h.keep (hb.block b h.lt) (fun k hk => hb.block k (h.own_lt k hk))
/-- Another writer's deed. -/
theorem WrS.other {w w' : World} {b b2 : Nat} {g g2 g3 : Option Nat} {l : List UInt8} (h : WrS w b g l) (k : WroteS w b2 g2 g3 w') (hb : b ≠ b2) (hg : g2 ≠ some b) (hb2 : g ≠ some b2) (hgg : g ≠ g2 ∨ g = none) : WrS w' b g l :=
  h.keep (k.block b h.lt hb (fun e => hg e.symm)) (fun j hj => k.block j (h.own_lt j hj) (fun e => hb2 (by rw [hj, e])) (fun e => by
    rcases hgg with hh | hh
    · exact hh (by rw [hj, e])
    · rw [hh] at hj; cases hj))
/-- A new, empty writer. -/
theorem WrS.new_ {w : World} {b : Nat} (hb : b = w.heap.size) : WrS (w.alloc (.cells #[.pointer none, .slice none 0 0] 130)) b none [] :=
  .inl ⟨.slice none 0 0, blk_new hb, ⟨rfl, .inl ⟨rfl, rfl⟩⟩, rfl⟩

theorem sizeBS : (Tryz.prog.info? 130).map (·.size) = some 2 := by kernel_rfl
theorem liesBS : liesAt Tryz.prog Tryz.prog.depth 130 (2 / Tryz.prog.cellsOf 130) 0 130 1 = true := by kernel_rfl
theorem infoByteS : (Tryz.prog.info? 5).map (fun i => (i.zero, i.size, i.bytes)) = some (some (.int .u8 0), 1, 1) := by kernel_rfl
set_option maxHeartbeats 1000000 in
set_option maxRecDepth 100000 in
theorem Z4q (b : Nat) (w : World) (h0 : w.cell? ⟨b, 0, none⟩ = some (.pointer (some ⟨b, 0, none⟩))) :
    Calls Tryz.prog 112 #[.pointer (some ⟨b, 0, none⟩)] w fun e w' => e = .returned (.tuple #[]) ∧ w' = w := by
  obtain ⟨j, hj, _⟩ := Option.map_eq_some_iff.1 sizeBS
  go_enter Tryz.func112, Tryz.ntmps112
  go_wp2
  rw [Lib.run_neq_ptr_same w _ Tryz.underlying128 hj]
  go_wp2
  go_end0
  exact ⟨rfl, rfl⟩

set_option maxHeartbeats 1000000 in
set_option maxRecDepth 100000 in
theorem Z3z (b : Nat) (w : World) (h0 : w.cell? ⟨b, 0, none⟩ = some (.pointer none)) (hsh : w.shape? b = some (130, 2)) (hfz : w.frozen? ⟨b, 0, none⟩ = false) :
    Calls Tryz.prog 112 #[.pointer (some ⟨b, 0, none⟩)] w fun e w' => e = .returned (.tuple #[]) ∧ w' = w.setCell ⟨b, 0, none⟩ (.pointer (some ⟨b, 0, none⟩)) := by
  obtain ⟨j, hj, hjs⟩ := Option.map_eq_some_iff.1 sizeBS
  go_enter Tryz.func112, Tryz.ntmps112
  go_wp2
  rw [Lib.run_to_unsafe w ⟨b, 0, none⟩ Tryz.underlying128 Tryz.underlying176 hj (by rw [hjs]; decide) hsh (Nat.zero_lt_succ 1)]
  simp only [Result.andThen]
  rw [Oper.upon_value]
  go_wp2
  rw [run_callFunc_extern Tryz.func124 (by kernel_rfl) (by kernel_rfl) (by kernel_rfl) (e := Extern.AbiNoEscape.same) (by kernel_rfl)]
  rw [Lib.run_noEscape]
  simp only [Result.andThen]
  rw [Oper.upon_value]
  go_wp2
  rw [Lib.run_from_unsafe w ⟨b, 0, none⟩ Tryz.underlying176 Tryz.underlying128 hj hsh liesBS]
  simp only [Result.andThen]
  rw [Oper.upon_value]
  go_wp2
  go_end0
  exact ⟨rfl, rfl⟩

theorem wrote_setS {w : World} {b : Nat} {g : Option Nat} (i : Nat) (u : Value) : WroteS w b g g (w.setCell ⟨b, i, none⟩ u) :=
  ⟨rfl, rfl, rfl, by simp [World.setCell], fun k _ hk _ => Below.heap_setCell _ _ _ _ hk, .inl rfl⟩

theorem Z4w (b : Nat) (g : Option Nat) (l : List UInt8) (w : World) (h : WrS w b g l) :
    Calls Tryz.prog 112 #[.pointer (some ⟨b, 0, none⟩)] w fun e w' => e = .returned (.tuple #[]) ∧ WrPS w' b g (.pointer (some ⟨b, 0, none⟩)) l ∧ WroteS w b g g w' := by
  rcases h with h | h
  · have hne := h.ne
    have h' := h
    obtain ⟨v, hb, hown, hg⟩ := h
    refine (Z3z b w (Blk.cell hb 0) (by simp [World.shape?, hb]) (Blk.frozen hb 0)).mono ?_
    rintro e w' ⟨rfl, rfl⟩
    refine ⟨rfl, ⟨v, Blk.set_ hb 0 _, ?_, hg⟩, wrote_setS 0 _⟩
    refine hown.kept (row := some b) ⟨rfl, rfl, rfl, by simp [World.setCell], fun k _ hk => Below.heap_setCell _ _ _ _ (fun e => hk (by simp [e]))⟩ (.inr (by rw [hg]; exact hne))
  · have h' := h
    obtain ⟨v, hb, hown, hg⟩ := h
    refine (Z4q b w (Blk.cell hb 0)).mono ?_
    rintro e w' ⟨rfl, rfl⟩
    exact ⟨rfl, h', WroteS.refl _ _ _⟩
end Go.Proofs.YtakkhglbdljfiaaGreatDoor

/- The walks of strings.Builder's WriteString, WriteByte, String on the builder of the call's own. -/
namespace Go.Proofs.YtakkhglbdljfiaaGreatDoor
set_option linter.unusedVariables false
set_option linter.unusedSimpArgs false
open Go.RowKit

theorem Z3n (a b : List UInt8) : Lib.byteCells (a ++ b) = Lib.byteCells a ++ Lib.byteCells b := by simp [Lib.byteCells]

/-- Behind an append the new buffer is stored into the writer. -/
theorem wr_storeS {w1 w2 : World} {b : Nat} {g : Option Nat} {v v' p : Value} {l' : List UInt8} (hb : w1.heap[b]? = some (.cells #[p, v] 130 (0, 0))) (hv : v.ownBlock = g) (hne : g ≠ some b)
    (hown : w2.ownsRowF 0 5 1 v' l'.length (Lib.byteCells l')) (hgrow : w1.grownBy w2 v.ownBlock) (hf : v'.ownBlock = v.ownBlock ∨ ∃ k, v'.ownBlock = some k ∧ w1.heap.size ≤ k) :
    WrPS (w2.setCell ⟨b, 1, none⟩ v') b v'.ownBlock p l' ∧ WroteS w1 b g v'.ownBlock (w2.setCell ⟨b, 1, none⟩ v') := by
  have hlt : b < w1.heap.size := Blk.lt hb
  have hb2 : w2.heap[b]? = some (.cells #[p, v] 130 (0, 0)) := (hgrow.block b hlt (fun e => hne (by rw [← hv, e]))).trans hb
  have hne' : v'.ownBlock ≠ some b := Lib.ownBlock_neF hown hb2 (by decide)
  refine ⟨⟨v', Blk.set_ hb2 1 v', ?_, rfl⟩, ⟨hgrow.os, hgrow.tape, hgrow.output, by simpa [World.setCell] using hgrow.size, fun k hk hkb hkg => ?_, ?_⟩⟩
  · exact hown.kept (row := some b) ⟨rfl, rfl, rfl, by simp [World.setCell], fun k _ hk => Below.heap_setCell _ _ _ _ (fun e => hk (by simp [e]))⟩ (.inr hne')
  · exact (Below.heap_setCell _ _ _ _ hkb).trans (hgrow.block k hk (by rw [hv]; exact hkg))
  · rw [hv] at hf
    exact hf

set_option maxHeartbeats 2000000 in
set_option maxRecDepth 100000 in
theorem Z3y (b : Nat) (g : Option Nat) (l : List UInt8) (s : ByteArray) (w : World) (h : WrS w b g l) (hlen : l.length + s.size ≤ 140737488355328) :
    Calls Tryz.prog 84 #[.pointer (some ⟨b, 0, none⟩), .string s] w fun e w' => e = .returned (.tuple #[.int .i64 s.size, .nilIface]) ∧ ∃ g', WrPS w' b g' (.pointer (some ⟨b, 0, none⟩)) (l ++ s.data.toList) ∧ WroteS w b g g' w' := by
  obtain ⟨i0, hi, hz0, hz1, hz2⟩ := info_parts infoByteS
  have hne := h.ne
  go_enter Tryz.func84, Tryz.ntmps84
  go_wp2_with fail
  refine (Z4w b g l _ h).mono ?_
  rintro e w1 ⟨rfl, h1, k1⟩
  obtain ⟨v, hbk, hown, hg⟩ := h1
  have Hg := Lib.hid hg
  clear hg
  have c0 : w1.cell? ⟨b, 0, none⟩ = some (.pointer (some ⟨b, 0, none⟩)) := Blk.cell hbk 0
  have c1 : w1.cell? ⟨b, 1, none⟩ = some v := Blk.cell hbk 1
  go_wp2_with (at_builtin; refine Z2x _ rfl _ _ 81 9 rfl 0 5 i0 Tryz.underlying81 Tryz.underlying9 hi hz0 hz1 hz2 _ _ _ rfl hown s rfl ?c3 ?c4 ?c5 ?_)
  case c3 => unfold maxLen; omega
  case c4 => omega
  case c5 => omega
  intro v' w2 hown' hgrow hfr
  rw [show Lib.strCells s = Lib.byteCells s.data.toList from rfl, ← Z3n] at hown'
  have hown2 : w2.ownsRowF 0 5 1 v' (l ++ s.data.toList).length (Lib.byteCells (l ++ s.data.toList)) := by simpa using hown'
  have hb2 : w2.heap[b]? = some (.cells #[.pointer (some ⟨b, 0, none⟩), v] 130 (0, 0)) := (hgrow.block b (Blk.lt hbk) (fun e => hne (by rw [← Hg.out, e]))).trans hbk
  have d1 : w2.cell? ⟨b, 1, none⟩ = some v := Blk.cell hb2 1
  have f1 : w2.frozen? ⟨b, 1, none⟩ = false := Blk.frozen hb2 1
  obtain ⟨k2, k3⟩ := wr_storeS hbk Hg.out hne hown2 hgrow hfr
  have hex : ∃ ao n' cap, v' = .slice ao n' cap := by
    rcases hown'.2 with ⟨hv, _⟩ | ⟨g, cap, cur, fz, hv, _⟩
    · exact ⟨_, _, _, hv⟩
    · exact ⟨_, _, _, hv⟩
  obtain ⟨ao, n', cap, rfl⟩ := hex
  clear hown' hown2 hgrow hfr hown
  have K2 := Lib.hid k2
  have K3 := Lib.hid (k1.trans k3)
  clear k1 k2 k3
  go_wp2
  go_ret2
  exact ⟨rfl, _, K2.out, K3.out⟩

end Go.Proofs.YtakkhglbdljfiaaGreatDoor

/- disc: builders, maps under way, as things; what is done to the sectors, plain. -/
namespace Go.Proofs.YtakkhglbdljfiaaGreatDoor
set_option linter.unusedVariables false
set_option linter.unusedSimpArgs false
open Go.RowKit Go.Maps Go.ChangeMaps Go.MapKept Go.WideShapes

/-- A builder. -/
def tWr (b : Nat) (g : Option Nat) (l : List UInt8) : Thing where
  foot := b :: g.toList
  holds := fun w => WrS w b g l
  keep := fun w w' _ h hb => hb.keep (h b (by simp)) (fun k hk => h k (by simp [hk]))
  lt := fun w h i hi => by
    rcases List.mem_cons.1 hi with rfl | hi
    · exact h.lt
    · exact h.own_lt i (by simpa using hi)
/-- A range over a map under way. -/
def tVR (b r n : Nat) (m : Int → Option Value) (left : Int → Bool) (cnt : Nat) : Thing where
  foot := [b, r]
  holds := fun w => VR w b r n m left cnt
  keep := fun w w' _ h hb => hb.same (h b (by simp)) (h r (by simp))
  lt := fun w h i hi => by
    rcases List.mem_cons.1 hi with rfl | hi
    · exact h.vm.lt
    · have : i = r := by simpa using hi
      subst this
      exact h.lt
section
variable {H : Nat} {A w w' : World} {L : List Thing} {b r n k cnt cnt' : Nat} {g g' : Option Nat} {l l' : List UInt8} {m m' : Int → Option Value} {left left' : Int → Bool}
theorem OwnT.asWr (O : OwnT H A (tBlk b 130 #[.pointer none, .slice none 0 0] :: L) w) : OwnT H A (tWr b none [] :: L) w :=
  O.call (F := []) (Chg.refl [] w) (by simp) (tWr b none []) (.inl ⟨.slice none 0 0, O.b0, ⟨rfl, .inl ⟨rfl, rfl⟩⟩, rfl⟩) (fun i hi => .inl (by simpa [tWr, tBlk] using hi))
theorem OwnT.wrote (O : OwnT H A (tWr b g l :: L) w) (h : WrS w' b g' l') (k : WroteS w b g g' w') : OwnT H A (tWr b g' l' :: L) w' := by
  refine O.call (F := b :: g.toList) ⟨k.os, k.tape, k.output, k.size, fun i hi hn => k.block i hi (fun e => hn (by simp [e])) (fun e => hn (by simp [← e]))⟩ (fun i hi => hi) (tWr b g' l') h (fun i hi => ?_)
  rcases List.mem_cons.1 hi with rfl | hi
  · exact .inl (by simp [tWr])
  · rcases k.own with e | ⟨j, e, hj⟩
    · exact .inl (by rw [e] at hi; exact List.mem_cons_of_mem _ hi)
    · exact .inr (by rw [e] at hi; simp at hi; omega)
theorem wr_string (s : List UInt8) (O : OwnT H A (tWr b g l :: L) w) (hlen : l.length + s.length ≤ 140737488355328) :
    Calls Tryz.prog 84 #[.pointer (some ⟨b, 0, none⟩), .string (sB s)] w fun e w' => ∃ g', e = .returned (.tuple #[.int .i64 (sB s).size, .nilIface]) ∧ OwnT H A (tWr b g' (l ++ s) :: L) w' := by
  refine (Z3y b g l (sB s) w O.all.1 (by rw [Z1k]; exact hlen)).mono ?_
  rintro e w' ⟨rfl, g', h1, h2⟩
  exact ⟨g', rfl, O.wrote (.inr h1) h2⟩
theorem wr_end (O : OwnT H A [tWr b g l] w) : Calls Tryz.prog 86 #[.pointer (some ⟨b, 0, none⟩)] w fun e w' => e = .returned (.string (sB l)) ∧ Below H A w' := by
  have hb : H ≤ b := O.high (tWr b g l) (by simp) b (by simp [tWr])
  have hg : ∀ k, g = some k → H ≤ k := fun k hk => O.high (tWr b g l) (by simp) k (by simp [tWr, hk])
  have hlen : (Lib.byteCells l).length = l.length := by simp [Lib.byteCells]
  have hF : ∀ p, WrPS w b g p l → Lib.BuilderAtF 130 5 H b p (Lib.byteCells l) w := by
    rintro p ⟨v, h1, h2, h3⟩
    refine ⟨hb, v, h1, ?_, Lib.ownBlock_neF h2 h1 (by decide)⟩
    rw [hlen]
    refine ⟨h2.1, ?_⟩
    rcases h2.2 with hn | ⟨g', cap, cur, fz, rfl, _, rest⟩
    · exact .inl hn
    · exact .inr ⟨g', cap, cur, fz, rfl, hg g' h3.symm, rest⟩
  have hA : Lib.IsBuilderF 130 5 H b (Lib.byteCells l) w := (O.all.1 : WrS w b g l).elim (fun h => .inl (hF _ h)) (fun h => .inr (hF _ h))
  refine (Tryz.Builder_String_any_f H b l w hA O.size).mono ?_
  rintro e w' ⟨rfl, _, h2⟩
  exact ⟨rfl, O.below.trans h2⟩
theorem OwnT.mapSet (O : OwnT H A (tMap b k m :: L) w) (hv : VM w' b n m') (hC : Chg [b] w w') : OwnT H A (tMap b n m' :: L) w' :=
  O.call hC (fun i hi => by simpa [tMap] using hi) (tMap b n m') hv (fun i hi => .inl hi)
theorem OwnT.rangeOn (O : OwnT H A (tMap b n m :: L) w) (hr : VR w' b w.heap.size n m left cnt) (hE : Ext w w') : OwnT H A (tVR b w.heap.size n m left cnt :: L) w' :=
  O.call (F := []) (Chg.of_ext hE []) (by simp) (tVR b w.heap.size n m left cnt) hr (fun i hi => by
    rcases List.mem_cons.1 hi with rfl | hi
    · exact .inl (by simp [tMap])
    · exact .inr (by simp at hi; omega))
theorem OwnT.rangeNext (O : OwnT H A (tVR b r n m left cnt :: L) w) (hr : VR w' b r n m left' cnt') (hC : Chg [r] w w') : OwnT H A (tVR b r n m left' cnt' :: L) w' :=
  O.call hC (fun i hi => by simp at hi; subst hi; simp [tVR]) (tVR b r n m left' cnt') hr (fun i hi => .inl hi)
theorem OwnT.rangeEnd (O : OwnT H A (tVR b r n m left cnt :: L) w) : OwnT H A (tMap b n m :: L) w :=
  O.call (F := []) (Chg.refl [] w) (by simp) (tMap b n m) (VR.vm (O.all.1 : VR w b r n m left cnt)) (fun i hi => .inl (by simp [tMap] at hi; simp [tVR, hi]))
theorem Z6r (h : VM w b n m) (t e ty : TypeId) (ht : Tryz.prog.underlying t = some (.map 3 e)) : ∃ w', (Builtin.clear_ #[t] ty #[.map (some b)]).run Tryz.prog w = .ok (.tuple #[]) w' ∧ VM w' b 0 (fun _ => none) ∧ Chg [b] w w' := by
  obtain ⟨D, ⟨es, clock, hb, F, hs, rfl⟩, h2⟩ := h
  have hlt : b < w.heap.size := (Array.getElem?_eq_some_iff.1 hb).1
  have hn : (setBlock w b (.map #[] clock)).heap[b]? = some (.map #[] clock) := by simp [setBlock, hlt]
  refine ⟨_, Z5s w t 3 e ty b es clock ht hb, ⟨.map [], ⟨#[], clock, hn, ⟨by simp, stamped_empty clock, by simp⟩, Nat.le_refl _, rfl⟩, fun _ _ => ⟨fun _ => rfl, rfl⟩⟩, ⟨rfl, rfl, rfl, by simp [setBlock], fun i hi hne => ?_⟩⟩
  have : b ≠ i := fun e => hne (by simp [e])
  simp [setBlock, Array.getElem?_setIfInBounds_ne this]
end
section
variable {H : Nat} {A w w' : World} {L R : List Thing} {X Y Z : Thing} {b n k mb : Nat} {m m' : Int → Option Value} {M : Mn} {c : Int}
theorem Z5n (O : OwnT H A (X :: tMn mb M :: R) w) (hM : M.Ok c) (hk : c ≤ 1000000000000000000) :
    Calls Tryz.prog 80 #[.pointer (some ⟨mb, 0, none⟩)] w fun e w' => e = .returned (.int .i64 (if M.up then 0 else 4)) ∧ OwnT H A (X :: tMn mb M.use :: R) w' :=
  (use_mn (O.perm (.swap _ _ _)) hM hk).mono fun _ _ h => ⟨h.1, h.2.perm (.swap _ _ _)⟩
theorem OwnT.mapSet2 (O : OwnT H A (X :: Y :: tMap b k m :: R) w) (hv : VM w' b n m') (hC : Chg [b] w w') : OwnT H A (X :: Y :: tMap b n m' :: R) w' :=
  OwnT.push (L := X :: Y :: tMap b k m :: R) 2 rfl ((OwnT.pull O 2 rfl).mapSet hv hC)
theorem OwnT.setRow1_1 {T : TypeId} {g cap : Nat} {xs : List Value} (O : OwnT H A (X :: tRow T 1 (.slice (some ⟨g, 0, none⟩) n cap) n xs :: R) w) {i : Nat} (hi : i < n) (u : Value) : OwnT H A (X :: tRow T 1 (.slice (some ⟨g, 0, none⟩) n cap) n (xs.set i u) :: R) (w.setCell ⟨g, i, none⟩ u) :=
  ((O.perm (.swap _ _ _)).setRow1 hi u).perm (.swap _ _ _)
end
section
variable {w : World} {b r n cnt : Nat} {m : Int → Option Value} {left : Int → Bool}
/-- The next round of a range, or its end. -/
theorem VR.next (h : VR w b r n m left cnt) (ty : TypeId) : ((∀ i, wfV i → left i = false) ∧ (Instr.next (.pointer (some ⟨r, 0, none⟩)) false ty).run Tryz.prog w = .ok (.tuple #[.bool false]) w) ∨
    ∃ (x : Int) (c : Value) (w' : World) (cnt' : Nat), wfV x ∧ left x = true ∧ m x = some c ∧ VR w' b r n m (fun i => left i && !decide (i = x)) cnt' ∧ cnt' < cnt ∧ Chg [r] w w' ∧ w'.heap.size = w.heap.size ∧
      (Instr.entry (.pointer (some ⟨r, 0, none⟩))).run Tryz.prog w' = .ok (.tuple #[.int .i64 x, c]) w' ∧ (Instr.next (.pointer (some ⟨r, 0, none⟩)) false ty).run Tryz.prog w = .ok (.tuple #[.bool true, .int .i64 x, c]) w' := by
  obtain ⟨D, l, h1, h2, h3⟩ := h
  rcases h1.next Z1f ty with ⟨_, hl, hrun⟩ | ⟨key, v, kl, y, w', cnt', hkey, hlk, hv, hat, hrun, hrg, hlt, hgr, hsz, hen⟩
  · exact .inl ⟨fun i hi => by rw [← h3 i hi]; exact hl _, hrun⟩
  · obtain ⟨x, rfl, rfl, hwx⟩ := Maps.keyOf_int_inv Tryz.underlying3 hkey
    unfold heldE at hv
    injection hv with hv
    subst hv
    refine .inr ⟨x, v, w', cnt', hwx, by rw [← h3 x hwx]; exact hlk, ?_, ⟨D, _, hrg, h2, fun i hi => ?_⟩, hlt, Chg.of_grown hgr, hsz, hen, hrun⟩
    · have h4 := (h2 x hwx).1
      cases hmx : m x with
      | none =>
        rw [hmx] at h4
        have e1 := (h4 (.lit (.bool true))).symm.trans (hat _)
        simp [orV] at e1
      | some v' =>
        rw [hmx] at h4
        have e1 := (h4 (.lit (.bool true))).symm.trans (hat _)
        simp [orV] at e1
        rw [e1]
    · rw [h3 i hi]
      by_cases e : i = x
      · subst e
        rw [WideAt.sameKey_self (keyV i)]
        simp
      · rw [sameKey_ne (Z3l e)]
        simp [e]
theorem Z7x {o : Oper} {ρ : Operand → Value} {x : Operand} {v p : Value} {w' : World} (ho : o.op = .next x false) (hx : ρ x = p) (h : (Instr.next p false o.type).run Tryz.prog w = .ok v w') : (execOp ρ o).run Tryz.prog w = .ok (.value v) w' := by
  simp [execOp, ho, hx, h]
theorem x_entry {o : Oper} {ρ : Operand → Value} {x : Operand} {v p : Value} (ho : o.op = .entry x) (hx : ρ x = p) (h : (Instr.entry p).run Tryz.prog w = .ok v w) : (execOp ρ o).run Tryz.prog w = .ok (.value v) w := by
  simp [execOp, ho, hx, h]
theorem x_clear {o : Oper} {ρ : Operand → Value} {x : Operand} {t : TypeId} {p v : Value} {w' : World} (ho : o.op = .call { callee := .builtin .clear, args := #[x], argTypes := #[t] }) (hx : ρ x = p) (h : (Builtin.clear_ #[t] o.type #[p]).run Tryz.prog w = .ok v w') : (execOp ρ o).run Tryz.prog w = .ok (.value v) w' := by
  unfold execOp
  simp only [ho, resolve, invoke, builtin, Sem.run_bind, Sem.run_pure, Result.andThen_ok, List.map_toArray, List.map_cons, List.map_nil, hx, h]
end
section
variable {H : Nat} {A w w' : World} {R : List Thing} {X Y : Thing} {b r n cnt cnt' : Nat} {m : Int → Option Value} {left left' : Int → Bool}
theorem OwnT.rangeOn2 (O : OwnT H A (X :: Y :: tMap b n m :: R) w) (hr : VR w' b w.heap.size n m left cnt) (hE : Ext w w') : OwnT H A (X :: Y :: tVR b w.heap.size n m left cnt :: R) w' :=
  OwnT.push (L := X :: Y :: tMap b n m :: R) 2 rfl ((OwnT.pull O 2 rfl).rangeOn hr hE)
theorem OwnT.rangeNext2 (O : OwnT H A (X :: Y :: tVR b r n m left cnt :: R) w) (hr : VR w' b r n m left' cnt') (hC : Chg [r] w w') : OwnT H A (X :: Y :: tVR b r n m left' cnt' :: R) w' :=
  OwnT.push (L := X :: Y :: tVR b r n m left cnt :: R) 2 rfl ((OwnT.pull O 2 rfl).rangeNext hr hC)
theorem OwnT.rangeEnd2 (O : OwnT H A (X :: Y :: tVR b r n m left cnt :: R) w) : OwnT H A (X :: Y :: tMap b n m :: R) w :=
  OwnT.push (L := X :: Y :: tVR b r n m left cnt :: R) 2 rfl (OwnT.rangeEnd (OwnT.pull O 2 rfl))
end
/-! Plain. -/
def secOf (l : List UInt8) (j : Nat) : Sec := (l.drop (16 * j)).take 16
def secsL (l : List UInt8) (k : Nat) : List Sec := (List.range k).map (secOf l)
theorem Z6g {l : List UInt8} {j : Nat} (h : 16 * (j + 1) ≤ l.length) : (secOf l j).length = 16 := by
  unfold secOf
  rw [List.length_take, List.length_drop]
  omega
theorem Z6f (l : List UInt8) (k : Nat) : (secsL l k).length = k := by simp [secsL]
theorem secsL_succ (l : List UInt8) (k : Nat) : secsL l (k + 1) = secsL l k ++ [secOf l k] := by simp [secsL, List.range_succ]
theorem secsL_at {l : List UInt8} {k j : Nat} (h : j < k) : (secsL l k)[j]? = some (secOf l j) := by simp [secsL, h]
theorem strsV_app (S T : List Sec) : strsV (S ++ T) = strsV S ++ strsV T := by simp [strsV]
theorem strsV_set (S : List Sec) (i : Nat) (s : Sec) : strsV (S.set i s) = (strsV S).set i (.string (sB s)) := by simp [strsV, List.map_set]
/-- Used j times. -/
def Mn.useN (M : Mn) : Nat → Mn
  | 0 => M
  | j + 1 => (M.useN j).use
theorem Mn.Ok.useN {M : Mn} {k : Int} (h : M.Ok k) (j : Nat) : (M.useN j).Ok (k + j) := by
  induction j with
  | zero => exact h.mono (by omega)
  | succ j ih => exact ih.use.mono (by omega)
/-- The first j sectors of a text are written from x on. -/
def wrS (l : List UInt8) (x : Int) (L : Int → Option Sec) : Nat → Int → Option Sec
  | 0 => L
  | j + 1 => putS (wrS l x L j) (x + j) (secOf l j)
theorem Z3q (l : List UInt8) (x : Int) (L : Int → Option Sec) (j : Nat) (i : Int) : wrS l x L j i = if x ≤ i ∧ i < x + j then some (secOf l (i - x).toNat) else L i := by
  induction j with
  | zero => rw [if_neg (by omega)]; rfl
  | succ j ih =>
    unfold wrS putS
    by_cases e : i = x + j
    · subst e
      rw [if_pos rfl, if_pos (by omega)]
      congr 2
      omega
    · rw [if_neg e, ih]
      by_cases h : x ≤ i ∧ i < x + j
      · rw [if_pos h, if_pos (by omega)]
      · rw [if_neg h, if_neg (by omega)]
theorem DOk.wr {n : Nat} {S : List Sec} {L : Int → Option Sec} (h : DOk n S L) {l : List UInt8} {x : Int} {j : Nat} (h0 : 0 ≤ x) (h1 : x + j ≤ n) (h2 : 16 * j ≤ l.length) : DOk n S (wrS l x L j) := by
  refine ⟨h.le, h.len, h.sz, fun i s hs => ?_⟩
  rw [Z3q] at hs
  split at hs
  · rename_i hi
    injection hs with hs
    subst hs
    exact ⟨by omega, Z6g (by omega)⟩
  · exact h.rng i s hs
/-- All sectors as they are read. -/
def nowL (S : List Sec) (L : Int → Option Sec) : List Sec := (List.range S.length).map fun (i : Nat) => nowAt S L i
theorem Z35 (S : List Sec) (L : Int → Option Sec) : (nowL S L).length = S.length := by simp [nowL]
theorem nowL_at {S : List Sec} {L : Int → Option Sec} {i : Nat} (h : i < S.length) : (nowL S L)[i]? = some (nowAt S L i) := by simp [nowL, h]
theorem Z4k {n : Nat} {S : List Sec} {L : Int → Option Sec} (h : DOk n S L) {i : Nat} (hi : i < n) : (nowAt S L i).length = 16 := by
  unfold nowAt
  cases hL : L i with
  | some s => exact (h.rng i s hL).2
  | none =>
    have : i < S.length := by have := h.len; omega
    simp only [Option.getD_none, Int.toNat_natCast, List.getD, List.getElem?_eq_getElem this, Option.getD_some]
    exact h.sz _ (List.getElem_mem this)
theorem DOk.flush {n : Nat} {S : List Sec} {L : Int → Option Sec} (h : DOk n S L) : DOk n (nowL S L) (fun _ => none) := by
  refine ⟨h.le, by rw [Z35]; exact h.len, fun s hs => ?_, fun i s e => by cases e⟩
  obtain ⟨i, hi, rfl⟩ := List.mem_map.1 hs
  exact Z4k h (by have := h.len; simpa [this] using hi)
/-- A flush under way. -/
def mixL (S : List Sec) (L : Int → Option Sec) (left : Int → Bool) : List Sec := (List.range S.length).map fun (i : Nat) => if left i then S.getD i [] else nowAt S L i
theorem Z36 (S : List Sec) (L : Int → Option Sec) (left : Int → Bool) : (mixL S L left).length = S.length := by simp [mixL]
theorem mixL_start (S : List Sec) (L : Int → Option Sec) : mixL S L (fun i => (looV L i).isSome) = S := by
  apply List.ext_getElem?
  intro i
  by_cases h : i < S.length
  · unfold mixL
    simp only [List.getElem?_map, List.getElem?_range h, Option.map_some, Z7l, List.getElem?_eq_getElem h]
    cases hL : L i with
    | none => simp [nowAt, hL, h]
    | some s => simp [h]
  · rw [List.getElem?_eq_none (by rw [Z36]; omega), List.getElem?_eq_none (by omega)]
theorem mixL_end {S : List Sec} {L : Int → Option Sec} {left : Int → Bool} (hn : S.length ≤ 16384) (h : ∀ i, wfV i → left i = false) : mixL S L left = nowL S L := by
  unfold mixL nowL
  refine List.map_congr_left fun i hi => ?_
  have : i < S.length := by simpa using hi
  rw [h i (Z3r (by omega) (by omega))]
  rfl
theorem mixL_step {S : List Sec} {L : Int → Option Sec} {left : Int → Bool} {x : Nat} {s : Sec} (hL : L x = some s) : (mixL S L left).set x s = mixL S L (fun i => left i && !decide (i = (x : Int))) := by
  apply List.ext_getElem?
  intro i
  by_cases h : i < S.length
  · by_cases e : x = i
    · subst e
      rw [List.getElem?_set_self (by rw [Z36]; exact h)]
      simp [mixL, h, nowAt, hL]
    · rw [List.getElem?_set_ne e]
      have e' : ¬ ((i : Int) = (x : Int)) := by omega
      simp [mixL, h, e']
  · rw [List.getElem?_eq_none (by rw [List.length_set, Z36]; omega), List.getElem?_eq_none (by rw [Z36]; omega)]
/-- What is read from x on. -/
def readL (S : List Sec) (L : Int → Option Sec) (x k : Nat) : List UInt8 := ((List.range k).map fun j => nowAt S L ((x + j : Nat) : Int)).flatten
theorem Z2h (S : List Sec) (L : Int → Option Sec) (x k : Nat) : readL S L x (k + 1) = readL S L x k ++ nowAt S L ((x + k : Nat) : Int) := by simp [readL, List.range_succ]
theorem Z4g {n : Nat} {S : List Sec} {L : Int → Option Sec} (h : DOk n S L) {x k : Nat} (hk : x + k ≤ n) : (readL S L x k).length = 16 * k := by
  induction k with
  | zero => rfl
  | succ k ih => rw [Z2h, List.length_append, ih (by omega), Z4k h (by omega)]; omega
section
variable {w : World} {o : Oper} {ρ : Operand → Value} {t u : TypeId} {x y : Operand}
end
end Go.Proofs.YtakkhglbdljfiaaGreatDoor
