/- Arrays of two ints compared. -/
import Derived.Test.YtencbdcfcpohaaaMem
import Derived.Laws.StructEq
namespace Go.Proofs.Ytencbdcfcpohaaa
set_option linter.unusedVariables false
set_option linter.unusedSimpArgs false
open Go.RowKit

theorem isAgg_int (w : World) : (isAgg 3).run Try.prog w = .ok false w := by kernel_rfl
theorem sizeOf_int (w : World) : (sizeOf 3).run Try.prog w = .ok 1 w := by kernel_rfl
theorem part2_0 (w : World) (x y : Value) : (part 3 #[x, y] 0).run Try.prog w = .ok x w := by kernel_rfl
theorem part2_1 (w : World) (x y : Value) : (part 3 #[x, y] 1).run Try.prog w = .ok y w := by kernel_rfl
theorem eq_arr2 (d : Nat) (a b a' b' : Int) (w : World) : (Op.equalIn (d + 2) 23 (.agg #[.int .i64 a, .int .i64 b]) (.agg #[.int .i64 a', .int .i64 b'])).run Try.prog w = .ok ((a == a') && (b == b')) w := by
  have h0 := fun W x y => run_equalIn_int (P := Try.prog) W d 3 .i64 .i64 x y Try.underlying3
  rw [Op.equalIn]
  simp only [Sem.run_bind, run_underlying Try.underlying23, Result.andThen_ok, sizeOf_int]
  by_cases ha : a = a' <;> by_cases hb : b = b' <;> simp [List.range', List.forIn_cons, Sem.run_bind, Sem.run_ite, part2_0, part2_1, h0, ha, hb]
end Go.Proofs.Ytencbdcfcpohaaa
