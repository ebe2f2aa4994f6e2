/- disc's law: the reference's rows, plain; appends in order. -/
import Derived.Test.YtakkhglbdljfiaaKTapeExact16
namespace Go.Proofs.Ytakkhglbdljfiaa
set_option linter.unusedVariables false
set_option linter.unusedSimpArgs false
open Go.RowKit Go.Maps

/-! A write. -/
/-! A flush under way: the first j are done. -/
/-! A settling under way. -/
section
variable {q : List UInt8} {L : Int → Option Sec} {S : List Sec} {i : Nat}
end
/-! An append in order. -/
theorem Z4d {P : Program} {H : Nat} {A w : World} {T t : TypeId} {k n g bytes : Nat} {v : Value} {xs news : List Value} {G : List Thing} (O : OwnT H A (tBlk g T news.toArray :: tRow T k v n xs :: G) w) (E : ElemI P t T k bytes) (hk : 0 < k) (hlen : news.length = k) (h1 : ∀ u ∈ news, u.oneCell' = true) (h63 : n + 1 ≤ maxLen) (hbytes : (n + 1) * bytes ≤ 140737488355328) :
    ∃ gr cap w', (∀ ty, (Builtin.append_ #[t, t] ty #[v, .slice (some ⟨g, 0, none⟩) 1 1]).run P w = .ok (.slice (some ⟨gr, 0, none⟩) (n + 1) cap) w') ∧ OwnT H A (tRow T k (.slice (some ⟨gr, 0, none⟩) (n + 1) cap) (n + 1) (xs ++ news) :: G) w' := by
  obtain ⟨i, z, hi, hz, hs, hby, hzs⟩ := E.info
  obtain ⟨r, w', hrun, h3⟩ := (O.perm (.swap _ _ _)).appendOne (P := P) t i z bytes E.ht hi hz hs hby hzs hk g T news O.b0 hlen h1 h63 hbytes
  obtain ⟨gr, cap, rfl⟩ := OwnT.slice0 h3 (by omega)
  exact ⟨gr, cap, w', hrun, h3.pick01⟩
/-- A cut with both ends. -/
theorem Z17 {P : Program} {w : World} {o : Oper} {ρ : Operand → Value} {t : TypeId} {x lo hi : Operand} {l : List UInt8} {k k' : IntKind} {a b : Nat} (hu : P.underlying t = some .string) (ho : o.op = .slice t x (some lo) (some hi) none) (hx : ρ x = .string (sB l)) (hl : ρ lo = .int k (a : Nat)) (hh : ρ hi = .int k' (b : Nat)) (hab : a ≤ b) (hb : b ≤ l.length) : (execOp ρ o).run P w = .ok (.value (.string (sB ((l.take b).drop a)))) w := by
  have hb' : ((b : Int) ≤ (sB l).size) := by rw [Z0l]; omega
  have ha' : ((a : Int) ≤ (b : Int)) := by omega
  unfold execOp
  simp only [ho, Option.map_some, Option.map_none, hx, hl, hh]
  simp [Instr.sliceAt, Instr.slice, Instr.sliceBounds, Instr.sliceBound, run_underlying hu, asIntOf, Z4m, Z0l]
  rw [if_pos hb, if_pos hab]
end Go.Proofs.Ytakkhglbdljfiaa
