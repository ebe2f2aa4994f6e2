/- A map of spots to bools that the call makes: what it says of each spot. The look-up of a bool. -/
import Derived.Test.YtojilbacloegjaaKPlaceExact05
import Derived.Maps.OwnSet
import Derived.DeepKeys4
namespace Go.Proofs.Ytojilbacloegjaa
set_option linter.unusedVariables false
set_option linter.unusedSimpArgs false
open Go.RowKit Go.Maps

theorem laidOut_ : laidOutB Try.prog = true := by kernel_rfl
theorem row_spot : (23 : TypeId) < Try.prog.types.size := of_decide_eq_true (by kernel_rfl)
theorem wide_spot : (match Try.prog.underlying 23 with | some (.array _ _) | some (.struct _) => true | _ => false) = true := by kernel_rfl
theorem law_spot : Keyed Try.prog 23 := Keyed.of_law (deep_law_laid laidOut_ (m := 3) (by omega) row_spot (by kernel_rfl) wide_spot)
theorem keyType_spot : Try.prog.keyType 23 = true := by kernel_rfl
theorem cells_spot : Try.prog.cellsOf 23 = 2 := by kernel_rfl
theorem cells_int_ : Try.prog.cellsOf 3 = 1 := by kernel_rfl
theorem zero_bool (w : World) : (zeroValue 4).run Try.prog w = .ok (.bool false) w := by kernel_rfl
theorem wf_i64_ {a : Int} (h0 : -9223372036854775808 ≤ a) (h1 : a ≤ 9223372036854775807) : (Lit.int .i64 a).wf = true := WalkArith.wf_i64 (by omega)
theorem spot_key {t s : Int} (ht : (Lit.int .i64 t).wf = true) (hs : (Lit.int .i64 s).wf = true) : ∃ l, keyOf Try.prog 23 (spotV t s) = some l := by
  have hf : (spotV t s).formed Try.prog 23 = true := by simp [Value.formed, Try.underlying23, cells_spot]
  have hl : Try.prog.keyLits (Try.prog.types.size + 1) 23 (spotV t s).cells.toList = some [.int .i64 t, .int .i64 s] := by
    have hsz : ∃ n, Try.prog.types.size = n + 1 := ⟨Try.prog.types.size - 1, (Nat.succ_pred_eq_of_pos (Nat.lt_of_le_of_lt (Nat.zero_le _) row_spot)).symm⟩
    obtain ⟨n, hn⟩ := hsz
    rw [hn]
    simp [Program.keyLits, Try.underlying23, Try.underlying3, Value.cells, cells_spot, cells_int_, ht, hs]
  refine ⟨.string (keyBytes [.int .i64 t, .int .i64 s]), ?_⟩
  unfold keyOf
  rw [Try.underlying23]
  simp only [keyType_spot, hf, hl]
  rfl

theorem plainElem_bool_inv {H : Type} {P : Program} {e : TypeId} (he : P.underlying e = some .bool) {v : Value} {z : DataW H × List MemPlace} (h : plainElem P e v = some z) : ∃ a, v = .bool a ∧ z = (.lit (.bool a), []) := by
  unfold plainElem at h
  rw [he] at h
  cases v <;> simp at h
  exact ⟨_, rfl, h.symm⟩

/-- Block b is a map of at most n entries that says f of each spot. -/
def SMap (w : World) (b n : Nat) (f : Int → Int → Bool) : Prop := ∃ D : DataW Unit, w.ownsMap Try.prog 23 (plainElem Try.prog 4) b n D ∧
  ∀ t s l, keyOf Try.prog 23 (spotV t s) = some l → D.atKey l (.lit (.bool false)) = .lit (.bool (f t s))

section
variable {w w' : World} {b n : Nat} {f : Int → Int → Bool}
theorem SMap.made (w : World) : SMap (w.alloc (.map #[] 0)) w.heap.size 0 (fun _ _ => false) :=
  ⟨.map [], World.ownsMap_made _ _ _ _, fun _ _ l _ => by rfl⟩
theorem SMap.ext (h : SMap w b n f) (k : Ext w w') : SMap w' b n f := by
  obtain ⟨D, h1, h2⟩ := h
  exact ⟨D, h1.kept (only_of_below k none) (by simp), h2⟩
theorem SMap.lt (h : SMap w b n f) : b < w.heap.size := by
  obtain ⟨D, h1, h2⟩ := h
  exact h1.lt
theorem SMap.look (h : SMap w b n f) {t s : Int} (ht : (Lit.int .i64 t).wf = true) (hs : (Lit.int .i64 s).wf = true) :
    (Instr.lookup 65 (.map (some b)) (spotV t s) false).run Try.prog w = .ok (.bool (f t s)) w := by
  obtain ⟨D, h1, h2⟩ := h
  obtain ⟨l, hl⟩ := spot_key ht hs
  obtain ⟨v, ps, hrun, hv⟩ := h1.lookup law_spot Try.underlying65 (zero_bool w) (plainElem_bool Try.underlying4 false) hl
  obtain ⟨a, rfl, hz⟩ := plainElem_bool_inv Try.underlying4 hv
  rw [h2 t s l hl] at hz
  simp at hz
  rw [hrun, hz.1]
theorem SMap.store (h : SMap w b n f) (hn : n < maxLen) {t s : Int} (ht : (Lit.int .i64 t).wf = true) (hs : (Lit.int .i64 s).wf = true) :
    ∃ w', (Instr.mapUpdate 65 (.map (some b)) (spotV t s) (.bool true)).run Try.prog w = .ok () w' ∧ SMap w' b (n + 1) (fun x y => (t == x && s == y) || f x y) ∧ w.grownBy w' (some b) := by
  obtain ⟨D, h1, h2⟩ := h
  obtain ⟨l, hl⟩ := spot_key ht hs
  obtain ⟨w', hrun, h3, h4⟩ := h1.update law_spot Try.underlying65 hn hl (plainElem_bool (H := Unit) Try.underlying4 true)
  refine ⟨w', hrun, ⟨_, h3, fun x y l' hl' => ?_⟩, h4⟩
  by_cases e : t = x ∧ s = y
  · obtain ⟨rfl, rfl⟩ := e
    have : l' = l := by rw [hl] at hl'; exact (Option.some.inj hl').symm
    subst this
    rw [atKey_put_same h1.isMap (law_spot.key hl)]
    simp
  · have hne : l' ≠ l := by
      rintro rfl
      have := law_spot.inj hl hl'
      simp at this
      exact e this
    rw [atKey_put_other hne, h2 x y l' hl']
    have : (t == x && s == y) = false := by
      rw [Bool.and_eq_false_iff]
      simp only [beq_eq_false_iff_ne]
      by_cases hx : t = x
      · exact .inr (fun hy => e ⟨hx, hy⟩)
      · exact .inl hx
    show DataW.lit (Lit.bool (f x y)) = DataW.lit (Lit.bool ((t == x && s == y) || f x y))
    rw [this]
    rfl
end

/-- 'm[k] = true' at the operation. -/
theorem wpList_smap_store {w : World} {ops : Array Oper} {rest : List Oper} {o : Oper} {a : Act} {Q : Exit → Act → World → Prop} (hg : o.guard = none) (m x v : Operand) (hop : o.op = Op.mapUpdate 65 m x v)
    {b n : Nat} {f : Int → Int → Bool} (h : SMap w b n f) (hn : n < maxLen) {t s : Int} (ht : (Lit.int .i64 t).wf = true) (hs : (Lit.int .i64 s).wf = true)
    (hm : a.eval m = .map (some b)) (hx : a.eval x = spotV t s) (hv : a.eval v = .bool true)
    (hK : ∀ w', SMap w' b (n + 1) (fun x y => (t == x && s == y) || f x y) → w.grownBy w' (some b) → wpList Try.prog ops Q rest (a.put o.dst undef) w') : wpList Try.prog ops Q (o :: rest) a w := by
  refine wpList_plain hg fun K' hK' => ?_
  obtain ⟨w', hrun, r1, r2⟩ := h.store hn ht hs
  unfold Oper.wp
  simp [execOp, hop, hm, hx, hv, hrun, Result.andThen]
  exact hK' _ _ (hK w' r1 r2)
end Go.Proofs.Ytojilbacloegjaa
