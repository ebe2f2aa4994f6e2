/- The walk of tierceref01.Number. -/
import Derived.Test.YtencbdcfcpohaaaDoorGet
namespace Go.Proofs.YtencbdcfcpohaaaDoor
set_option linter.unusedVariables false
set_option linter.unusedSimpArgs false
open Go.RowKit

theorem numL_drop (l : List UInt8) (k : Nat) (h : k < l.length) : numL (l.drop k) = (l.getD k 0).toNat + 256 * numL (l.drop (k + 1)) := by
  rw [List.drop_eq_getElem_cons h, numL]
  simp [List.getD, List.getElem?_eq_getElem h]

set_option maxRecDepth 10000 in
set_option maxHeartbeats 1000000 in
theorem number_any (s : ByteArray) (w : World) (hs : s.size ≤ 8) :
    Calls Tryd.prog 19 #[.string s] w fun e w' => e = .returned (.int .u64 (numL s.data.toList)) ∧ w = w' := by
  have hsl : s.data.toList.length = s.size := by simp
  go_enter Tryd.func19, Tryd.ntmps19
  go_wp2_with fail
  go_loop [3, 4] (fun x i => ∃ (k X : Nat), k ≤ s.size ∧ i = .int .i64 ((k : Int) - 1) ∧ x = .int .u64 X ∧ Hid (X = numL (s.data.toList.drop k))) (fun _ i => (intOf i + 1).toNat)
  case atStart => exact ⟨s.size, 0, by omega, rfl, rfl, by show 0 = _; rw [List.drop_of_length_le (by omega)]; rfl⟩
  case round =>
    obtain ⟨k, X, hk, rfl, rfl, HX⟩ := hrel
    by_cases hlt : 0 < k
    · obtain ⟨j, rfl⟩ : ∃ j, k = j + 1 := ⟨k - 1, by omega⟩
      have hj : j < s.size := by omega
      have hd := numL_drop s.data.toList j (by omega)
      have hl := numL_lt (s.data.toList.drop (j + 1))
      have hl2 := numL_lt (s.data.toList.drop j)
      rw [← HX.out] at hd hl
      rw [List.length_drop, hsl] at hl hl2
      have hp : 256 ^ (s.size - j) ≤ 256 ^ 8 := Nat.pow_le_pow_right (by decide) (by omega)
      simp only [Nat.reducePow] at hp
      rw [hd] at hl2
      have hb := index_byte s j hj
      have hx : ((j + 1 : Nat) : Int) - 1 = (j : Int) := by omega
      rw [hx]
      rw [← hb] at hd hl2
      have HD := Lib.hid hd
      have hbound : (s[j]'hj).toNat + 256 * X < 18446744073709551616 := by omega
      clear hl hl2 hd hp hb hx
      go_wp2_with fail
      go_round
      case rel => exact ⟨j, (s[j]'hj).toNat + 256 * X, by omega, by first | rfl | go_num, by first | rfl | go_num, by show _ = _; rw [HD.out]⟩
      case measure => simp [intOf]
    · obtain rfl : k = 0 := by omega
      go_wp2_with fail
      go_ret
      exact ⟨ret_int (by rw [HX.out, List.drop_zero]), rfl⟩
end Go.Proofs.YtencbdcfcpohaaaDoor
