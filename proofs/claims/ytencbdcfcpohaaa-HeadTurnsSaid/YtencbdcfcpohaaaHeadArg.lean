/- A head as an argument. -/
import Derived.Test.YtencbdcfcpohaaaFitB
import Derived.Test.YtencbdcfcpohaaaHead
namespace Go.Proofs.Ytencbdcfcpohaaa
set_option linter.unusedVariables false
set_option linter.unusedSimpArgs false
open Go.RowKit

theorem cells_head : Try.prog.cellsOf 25 = 5 := by kernel_rfl
theorem cells_hi : Try.prog.cellsOf 3 = 1 := by kernel_rfl
theorem cells_hu : Try.prog.cellsOf 22 = 1 := by kernel_rfl
theorem cells_h2 : Try.prog.cellsOf 23 = 2 := by kernel_rfl
theorem arg_head {w : World} {v : Value} (h : Arg Try.prog w 25 v) : ∃ (g : Nat) (r a b c : Int), v = headV g r a b c ∧ g < 18446744073709551616 := by
  obtain ⟨cs, rfl, hf⟩ := arg_struct Try.underlying25 h
  obtain ⟨hl, hx⟩ := fit_fields 5 Try.underlying25 cells_head hf
  obtain ⟨g, e0, w0⟩ := cell_int Try.underlying22 (hx 0 0 22 1 rfl cells_hu)
  obtain ⟨r, e1, _⟩ := cell_int Try.underlying3 (hx 1 1 3 1 rfl cells_hi)
  have ha := hx 2 2 23 2 rfl cells_h2
  obtain ⟨_, hy⟩ := fit_array Try.underlying23 ha
  have y0 := hy 0 (by omega)
  have y1 := hy 1 (by omega)
  rw [cells_hi] at y0 y1
  obtain ⟨a, e2, _⟩ := cell_int Try.underlying3 y0
  obtain ⟨b, e3, _⟩ := cell_int Try.underlying3 y1
  obtain ⟨c, e4, _⟩ := cell_int Try.underlying3 (hx 3 4 3 1 rfl cells_hi)
  have e2' : cs[2]? = some (.int .i64 a) := by
    have := e2
    rw [List.getElem?_take_of_lt (by omega), List.getElem?_drop] at this
    simpa using this
  have e3' : cs[3]? = some (.int .i64 b) := by
    have := e3
    rw [List.getElem?_take_of_lt (by omega), List.getElem?_drop] at this
    simpa using this
  rw [list5_of hl e0 e1 e2' e3' e4]
  have hb : 0 ≤ g ∧ g ≤ 18446744073709551615 := by
    have := bounds_u64 w0
    omega
  obtain ⟨n, rfl⟩ : ∃ n : Nat, g = n := ⟨g.toNat, by omega⟩
  exact ⟨n, r, a, b, c, rfl, by omega⟩
end Go.Proofs.Ytencbdcfcpohaaa
