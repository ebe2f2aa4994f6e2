/- A node as an argument. -/
import Derived.Test.YtencbdcfcpohaaaDoorKLeafFinds09
import Derived.Test.YtencbdcfcpohaaaDoorKLeafFinds06
import Derived.Test.YtencbdcfcpohaaaDoorKLeafFinds20
namespace Go.Proofs.YtencbdcfcpohaaaDoor
set_option linter.unusedVariables false
set_option linter.unusedSimpArgs false
open Go.RowKit

theorem cells_pair : Tryd.prog.cellsOf 72 = 2 := by kernel_rfl
theorem cells_leaf : Tryd.prog.cellsOf 60 = 2 := by kernel_rfl
theorem cells_li : Tryd.prog.cellsOf 3 = 1 := by kernel_rfl
theorem cells_lu : Tryd.prog.cellsOf 31 = 1 := by kernel_rfl
theorem cells_ls : Tryd.prog.cellsOf 58 = 1 := by kernel_rfl
theorem fit_pair {w : World} {cs : List Value} (hf : Fit Tryd.prog w 72 cs) : ∃ x : Nat × Nat, cs = pairC x ∧ (x.1 < 18446744073709551616 ∧ x.2 < 18446744073709551616) := by
  obtain ⟨hl, hx⟩ := fit_fields 2 Tryd.underlying72 cells_pair hf
  obtain ⟨a, e0, w0⟩ := cell_int Tryd.underlying31 (hx 0 0 31 1 rfl cells_lu)
  obtain ⟨b, e1, w1⟩ := cell_int Tryd.underlying31 (hx 1 1 31 1 rfl cells_lu)
  have ha := bounds_u64 w0
  have hb := bounds_u64 w1
  obtain ⟨m, rfl⟩ : ∃ m : Nat, a = m := ⟨a.toNat, by omega⟩
  obtain ⟨n, rfl⟩ : ∃ m : Nat, b = m := ⟨b.toNat, by omega⟩
  exact ⟨(m, n), list2_of hl e0 e1, by show m < _; omega, by show n < _; omega⟩
theorem arg_leaf {w : World} {v : Value} (h : Arg Tryd.prog w 60 v) :
    ∃ (lv : Int) (A : Option Addr) (len cap : Nat) (xs : List (Nat × Nat)), v = .agg #[.int .i64 lv, .slice A len cap] ∧ len ≤ cap ∧ cap ≤ maxLen ∧ xs.length = len ∧ (∀ x ∈ xs, x.1 < 18446744073709551616 ∧ x.2 < 18446744073709551616) ∧ Row w A 2 pairC xs := by
  obtain ⟨cs, rfl, hf⟩ := arg_struct Tryd.underlying60 h
  obtain ⟨hl, hx⟩ := fit_fields 2 Tryd.underlying60 cells_leaf hf
  obtain ⟨lv, e0, _⟩ := cell_int Tryd.underlying3 (hx 0 0 3 1 rfl cells_li)
  have h1 := hx 1 1 58 1 rfl cells_ls
  obtain ⟨v, hv⟩ : ∃ v, (cs.drop 1).take 1 = [v] := by
    match cs, hl with
    | [x0, x1], _ => exact ⟨x1, rfl⟩
  rw [hv] at h1
  obtain ⟨A, len, cap, xs, rfl, g1, g2, g3, g4, g5⟩ := fit_row pairC (fun x => x.1 < 18446744073709551616 ∧ x.2 < 18446744073709551616) Tryd.underlying58 cells_pair (by decide) (fun _ _ hf => fit_pair hf) h1
  have e1 := take1_drop hv
  rw [list2_of hl e0 e1]
  exact ⟨lv, A, len, cap, xs, rfl, g1, g2, g3, g4, g5⟩
end Go.Proofs.YtencbdcfcpohaaaDoor

/- LeafFinds: the walk. -/
namespace Go.Proofs.YtencbdcfcpohaaaDoor
set_option linter.unusedVariables false
set_option linter.unusedSimpArgs false
open Go.RowKit

theorem leafFinds_walk (w : World) (v0 v1 : Value) (h0 : Arg Tryd.prog w 60 v0) (h1 : Arg Tryd.prog w 31 v1) :
    Calls Tryd.prog 8 #[v0, v1] w fun e w' => e = .returned (.bool true) ∧ Below w.heap.size w w' := by
  obtain ⟨lv, A, len, cap, xs, rfl, hc, hm, h3, h5, h4⟩ := arg_leaf h0
  obtain ⟨k, rfl, wk⟩ := arg_int Tryd.underlying31 h1
  have hk := bounds_u64 wk
  obtain ⟨m, rfl⟩ : ∃ m : Nat, k = m := ⟨k.toNat, by omega⟩
  exact leafFinds_core lv A len cap xs m w h3 (by omega) h4 (fun x hx => (h5 x hx).1) (by omega)
end Go.Proofs.YtencbdcfcpohaaaDoor
