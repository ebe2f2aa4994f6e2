/- Plain lemmas on uint64 bits in the walk's spelling. -/
import Derived.Test.YtencbdcfcpohaaaDoorMem
import Derived.Laws.BitsAllLaws
namespace Go.Proofs.YtencbdcfcpohaaaDoor
set_option linter.unusedVariables false
set_option linter.unusedSimpArgs false
open Go.RowKit

theorem and_u64 (x m M : Int) (n : Nat) (hM : M = ((2 ^ n : Nat) : Int)) (hm : m + 1 = M) (hn : M ≤ 9223372036854775808) (h0 : 0 ≤ x) (h1 : x ≤ 18446744073709551615) : bits .and .u64 x m = x % M := by
  have hp : 0 < 2 ^ n := Nat.two_pow_pos n
  obtain ⟨X, rfl⟩ := Int.eq_ofNat_of_zero_le h0
  have e : m = ((2 ^ n - 1 : Nat) : Int) := by omega
  rw [e, u64_and_nat X (2 ^ n - 1) (by omega) (by omega), Nat.and_two_pow_sub_one_eq_mod, hM]
  rfl

theorem or_u64 (a b M : Int) (n : Nat) (hM : M = ((2 ^ n : Nat) : Int)) (ha0 : 0 ≤ a) (ha : a < M) (hb0 : 0 ≤ b) (hb1 : b ≤ 18446744073709551615) (ha1 : a ≤ 18446744073709551615) (hb : b % M = 0) : bits .or .u64 a b = a + b := by
  obtain ⟨A, rfl⟩ := Int.eq_ofNat_of_zero_le ha0
  obtain ⟨B, rfl⟩ := Int.eq_ofNat_of_zero_le hb0
  rw [u64_or_nat A B (by omega) (by omega)]
  subst hM
  have h1 : B % 2 ^ n = 0 := by exact_mod_cast hb
  have h2 : A < 2 ^ n := by omega
  rw [Nat.or_comm, nat_join n B A h1 h2]
  omega

/-- A bit set between a low part and a high one. -/
theorem or_mid_u64 (lo hi M N : Int) (n m : Nat) (hM : M = ((2 ^ n : Nat) : Int)) (hN : N = ((2 ^ m : Nat) : Int)) (hl0 : 0 ≤ lo) (hl : lo < M) (hh0 : 0 ≤ hi) (hh : hi % N = 0) (hMN : M + M ≤ N) (hs : lo + M + hi ≤ 18446744073709551615) : bits .or .u64 (lo + hi) M = lo + hi + M := by
  obtain ⟨L, rfl⟩ := Int.eq_ofNat_of_zero_le hl0
  obtain ⟨H, rfl⟩ := Int.eq_ofNat_of_zero_le hh0
  subst hM hN
  have e1 : ((L : Int) + H) = ((H + L : Nat) : Int) := by omega
  have h1 : H % 2 ^ m = 0 := by exact_mod_cast hh
  rw [e1, u64_or_nat (H + L) (2 ^ n) (by omega) (by omega)]
  rw [← nat_join m H L h1 (by omega), Nat.or_assoc, Nat.or_comm L, nat_join n (2 ^ n) L (by simp) (by omega), nat_join m H _ h1 (by omega), nat_join m H L h1 (by omega)]
  omega
end Go.Proofs.YtencbdcfcpohaaaDoor
