/- The numbers that the statements on heads fix. -/
import Derived.Test.YtencbdcfcpohaaaHeadF
import Derived.Test.YtencbdcfcpohaaaOwn
import Derived.Test.YtencbdcfcpohaaaArrEq
import Derived.Test.YtencbdcfcpohaaaTells
namespace Go.Proofs.Ytencbdcfcpohaaa
set_option linter.unusedVariables false
set_option linter.unusedSimpArgs false
open Go.RowKit

theorem num_head : sealL (headL 7 3 20 4 2) = [84, 2, 20, 0, 4, 0, 7, 0, 0, 0, 3, 0, 115, 177, 77, 133] := by decide +kernel
theorem read_head : readL [84, 2, 20, 0, 4, 0, 7, 0, 0, 0, 3, 0, 115, 177, 77, 133] = ⟨true, 7, 3, 20, 4, 2⟩ := by kernel_rfl
theorem read_zeros : readL (List.replicate 16 0) = HeadR.none := by kernel_rfl

def Z16 : ByteArray := ⟨#[0, 0, 0, 0, 0, 0, 0, 0, 0, 0, 0, 0, 0, 0, 0, 0]⟩
def C16 : Array Value := #[.int .u8 0, .int .u8 0, .int .u8 0, .int .u8 0, .int .u8 0, .int .u8 0, .int .u8 0, .int .u8 0, .int .u8 0, .int .u8 0, .int .u8 0, .int .u8 0, .int .u8 0, .int .u8 0, .int .u8 0, .int .u8 0]
theorem c16_row : C16 = rowOf (List.replicate 16 0) 16 := by kernel_rfl
abbrev Q6 : ByteArray := ⟨#[84, 2, 20, 0, 4, 0, 7, 0, 0, 0, 3, 0, 115, 177, 77, 133]⟩
theorem awake6_bytes (w : World) : Calls Try.prog 7 #[.agg #[.int .u64 7, .int .i64 3, .int .i64 20, .int .i64 4, .int .i64 2]] w fun e w' => e = .returned (.tuple #[.string Q6, .int .i64 0]) ∧ Below w.heap.size w w' := by
  have := hbytes_yes 7 3 20 4 2 w (by decide)
  rw [num_head] at this
  exact this
theorem awake6_read (w : World) : Calls Try.prog 11 #[.string Q6] w fun e w' => e = .returned (.tuple #[.agg #[.int .u64 7, .int .i64 3, .int .i64 20, .int .i64 4, .int .i64 2], .int .i64 0]) ∧ Below w.heap.size w w' := by
  have := hreads_any Q6 (by decide) w
  rw [show Q6.data.toList = [84, 2, 20, 0, 4, 0, 7, 0, 0, 0, 3, 0, 115, 177, 77, 133] from rfl, read_head] at this
  exact this
theorem awake6_newest (w : World) : Calls Try.prog 13 #[.string Z16, .string Q6] w fun e w' => e = .returned (.tuple #[.agg #[.int .u64 7, .int .i64 3, .int .i64 20, .int .i64 4, .int .i64 2], .int .i64 1, .int .i64 0]) ∧ Below w.heap.size w w' := by
  have h1 := hreads_any Z16 (by decide)
  rw [show Z16.data.toList = List.replicate 16 0 from rfl, read_zeros] at h1
  have h2 := hreads_any Q6 (by decide)
  rw [show Q6.data.toList = [84, 2, 20, 0, 4, 0, 7, 0, 0, 0, 3, 0, 115, 177, 77, 133] from rfl, read_head] at h2
  exact newest_any _ _ _ _ h1 h2 w _ rfl

set_option maxHeartbeats 1000000 in
theorem awake6 (w : World) : Calls Try.prog 6 #[] w fun e w' => e = .returned (.bool true) ∧ Below w.heap.size w w' := by
  have hx6 : ((Q6.extract 0 6).toList == [84, 2, 20, 0, 4, 0]) = true := by rw [ByteArray.toList_eq]; decide +kernel
  have EA := eq_arr2
  have hmk : ∀ w, (Instr.makeSlice 42 (.int .i64 16) (.int .i64 16)).run Try.prog w = .ok (.slice (some ⟨w.heap.size, 0, none⟩) 16 16) (w.alloc (.cells C16 5)) := fun _ => by kernel_rfl
  go_enter Try.func6, Try.ntmps6
  have O0 := (Own.start w).new 25 #[.int .u64 7, .int .i64 3, .int .i64 20, .int .i64 4, .int .i64 2]
  go_wp2_with fail
  refine (awake6_bytes _).mono ?_
  rintro e w1 ⟨rfl, R1⟩
  have O1 := O0.ext R1
  clear O0 R1
  go_wp2_with fail
  refine (awake6_read _).mono ?_
  rintro e w2 ⟨rfl, R2⟩
  have O2 := (O1.ext R2).new 25 #[.int .u64 7, .int .i64 3, .int .i64 20, .int .i64 4, .int .i64 2]
  clear O1 R2
  go_upto_region 4 with fail
  generalize hw3 : w2.alloc (.cells #[.int .u64 7, .int .i64 3, .int .i64 20, .int .i64 4, .int .i64 2] 25) = w3 at O2 ⊢
  have hcv : (convert 42 9 (.slice (some ⟨w3.heap.size, 0, none⟩) 16 16)).run Try.prog (w3.alloc (.cells C16 5)) = .ok (.string Z16) (w3.alloc (.cells C16 5)) :=
    Bytes.conv (w := w3.alloc (.cells C16 5)) (L := List.replicate 16 0) (c := 16) (by rw [c16_row]; exact Bytes.made) 16 16 rfl
  go_wp2_with fail
  refine (awake6_newest _).mono ?_
  rintro e w4 ⟨rfl, R4⟩
  have O4 := (((O2.other _).ext R4).new 25 #[.int .u64 7, .int .i64 3, .int .i64 20, .int .i64 4, .int .i64 2])
  clear O2 R4 hcv hw3 hmk
  go_upto_region 5 with fail
  generalize w4.alloc (.cells #[.int .u64 7, .int .i64 3, .int .i64 20, .int .i64 4, .int .i64 2] 25) = w5 at O4 ⊢
  have B5 := O4.done
  obtain ⟨D, C, E, -⟩ := O4.all
  have a0 := E.cell 0
  have a1 := E.cell 1
  have a2 := E.cell 2
  have a3 := E.cell 3
  have a4 := E.cell 4
  have c0 := C.cell 0
  have c1 := C.cell 1
  have c2 := C.cell 2
  have c3 := C.cell 3
  have c4 := C.cell 4
  have d0 := D.cell 0
  have d1 := D.cell 1
  have d2 := D.cell 2
  have d3 := D.cell 3
  have d4 := D.cell 4
  clear D C E O4
  go_wp2_with fail
  go_ret
  exact ⟨rfl, B5⟩
end Go.Proofs.Ytencbdcfcpohaaa
