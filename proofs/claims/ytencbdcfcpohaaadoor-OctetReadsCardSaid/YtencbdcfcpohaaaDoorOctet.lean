/- The walks of octet.Writer: Put, Text, String. -/
import Derived.Test.YtencbdcfcpohaaaDoorBuilderB
import Derived.Test.YtencbdcfcpohaaaDoorCrc
namespace Go.Proofs.YtencbdcfcpohaaaDoor
set_option linter.unusedVariables false
set_option linter.unusedSimpArgs false
open Go.RowKit

def clampSize (n : Int) : Nat := (min (max n 1) 8).toNat

theorem u8_of (m : Nat) : IntKind.u8.wrap (m : Int) = ((UInt8.ofNat m).toNat : Int) := by
  simp [IntKind.wrap, IntKind.bits, IntKind.signed]

theorem width_any (n : Int) (w : World) : Calls Tryd.prog 35 #[.int .i64 n] w fun e w' => e = .returned (.int .i64 (clampSize n)) ∧ w = w' := by
  go_enter Tryd.func35, Tryd.ntmps35
  by_cases h0 : n < 1
  · go_wp2
    all_goals
      go_ret
      exact ⟨ret_int (by unfold clampSize; omega), rfl⟩
  · by_cases h8 : 8 < n
    · go_wp2
      all_goals
        go_ret
        exact ⟨ret_int (by unfold clampSize; omega), rfl⟩
    · go_wp2
      all_goals
        go_ret
        exact ⟨ret_int (by unfold clampSize; omega), rfl⟩

theorem text_any (b : Nat) (g : Option Nat) (l : List UInt8) (s : ByteArray) (w : World) (h : Wr w b g l) (hlen : l.length + s.size ≤ 140737488355328) :
    Calls Tryd.prog 13 #[.pointer (some ⟨b, 0, none⟩), .string s] w fun e w' => e = .returned (.tuple #[]) ∧ ∃ g', Wr w' b g' (l ++ s.data.toList) ∧ Wrote w b g g' w' := by
  go_enter Tryd.func13, Tryd.ntmps13
  go_wp2_with fail
  refine (writeString_any b g l s _ h hlen).mono ?_
  rintro e w1 ⟨rfl, g1, h1, k1⟩
  go_wp2_with fail
  go_end0
  exact ⟨rfl, g1, .inr h1, k1⟩

theorem ostring_some (b : Nat) (g : Option Nat) (l : List UInt8) (w : World) (h : Wr w b g l) (h0 : l ≠ []) :
    Calls Tryd.prog 15 #[.pointer (some ⟨b, 0, none⟩)] w fun e w' => e = .returned (.string ⟨l.toArray⟩) ∧ Wr w' b g l ∧ Wrote w b g g w' := by
  go_enter Tryd.func15, Tryd.ntmps15
  go_wp2_with fail
  refine (string_some b g l _ h h0).mono ?_
  rintro e w1 ⟨rfl, h1, k1⟩
  go_wp2_with fail
  go_ret
  exact ⟨rfl, h1, k1⟩

set_option maxHeartbeats 1000000 in
theorem put_any (b : Nat) (g : Option Nat) (l : List UInt8) (n : Nat) (size : Int) (w : World) (hn : n < 18446744073709551616) (h : Wr w b g l) (hlen : l.length + 8 ≤ 140737488355328) :
    Calls Tryd.prog 11 #[.pointer (some ⟨b, 0, none⟩), .int .u64 n, .int .i64 size] w fun e w' => e = .returned (.tuple #[]) ∧ ∃ g', Wr w' b g' (l ++ le n (clampSize size)) ∧ Wrote w b g g' w' := by
  have hk8 : clampSize size ≤ 8 := by unfold clampSize; omega
  go_enter Tryd.func11, Tryd.ntmps11
  go_wp2_with fail
  refine (width_any _ _).mono ?_
  rintro e w1 ⟨rfl, rfl⟩
  generalize hk : clampSize size = k at hk8 ⊢
  have Hk := Lib.hid hk
  clear hk
  go_wp2_with fail
  go_loopw [1, 10] (fun m i wr => ∃ (j M : Nat) (gj : Option Nat), j ≤ k ∧ m = .int .u64 M ∧ i = .int .i64 j ∧ Hid (M = n / 256 ^ j) ∧ M < 18446744073709551616 ∧ Wr wr b gj (l ++ le n j) ∧ Wrote w b g gj wr) (fun _ i _ => k - (intOf i).toNat)
  case atStart => exact ⟨0, n, g, by omega, rfl, rfl, by simp [Hid], hn, by simpa [le] using h, Wrote.refl _ _ _⟩
  case round =>
    obtain ⟨j, M, gj, hj, rfl, rfl, hM, hM1, hW, hR⟩ := hrel
    clear h
    by_cases hlt : j < k
    · have e1 := u8_of M
      go_wp2_with fail
      refine (writeByte_any b gj (l ++ le n j) (UInt8.ofNat M) _ hW (by rw [List.length_append, le_length]; omega)).mono ?_
      rintro e w2 ⟨rfl, g2, h2, k2⟩
      clear e1
      go_wp2_with fail
      go_roundw
      case rel =>
        refine ⟨j + 1, M / 256, g2, by omega, by go_num, by go_num, ?_, by omega, ?_, hR.trans k2⟩
        · show M / 256 = n / 256 ^ (j + 1)
          rw [hM.out, Nat.div_div_eq_div_mul, Nat.pow_succ]
        · rw [le, ← List.append_assoc, ← hM.out]
          exact .inr h2
      case measure => simp [intOf]; omega
    · obtain rfl : j = k := by omega
      go_wp2_with fail
      go_end0
      exact ⟨rfl, gj, by rw [Hk.out]; exact hW, hR⟩
end Go.Proofs.YtencbdcfcpohaaaDoor
