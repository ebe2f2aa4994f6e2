/- A head's sector turned: what a reading gives. -/
import Derived.Test.YtencbdcfcpohaaaHeadE
import Derived.Test.YtencbdcfcpohaaaTells
import Derived.Laws.Bits128
namespace Go.Proofs.Ytencbdcfcpohaaa
set_option linter.unusedVariables false
set_option linter.unusedSimpArgs false
open Go.RowKit

theorem headOf_seal (g r a b c : Nat) (h : HeadOk g r a b c) : hG (sealL (headL g r a b c)) = g ∧ hR (sealL (headL g r a b c)) = r ∧ hA (sealL (headL g r a b c)) = a ∧ hB (sealL (headL g r a b c)) = b ∧ hC (sealL (headL g r a b c)) = c := by
  obtain ⟨a1, a2, b1, b2, g1, g2, r1, r2, c1, c2⟩ := h
  have e : sealL (headL g r a b c) = le 84 1 ++ (le c 1 ++ (le a 2 ++ (le b 2 ++ (le g 4 ++ (le r 2 ++ le (crcSum (headL g r a b c)) 4))))) := by simp [sealL, headL]
  rw [e]
  generalize le (crcSum (headL g r a b c)) 4 = Z
  have l1 : (le 84 1).length = 1 := le_length _ _
  have l2 : (le c 1).length = 1 := le_length _ _
  have l3 : (le a 2).length = 2 := le_length _ _
  have l4 : (le b 2).length = 2 := le_length _ _
  have l5 : (le g 4).length = 4 := le_length _ _
  have l6 : (le r 2).length = 2 := le_length _ _
  have nA := numL_le a 2 (by omega)
  have nB := numL_le b 2 (by omega)
  have nG := numL_le g 4 (by omega)
  have nR := numL_le r 2 (by omega)
  have nC := numL_le c 1 (by omega)
  generalize le 84 1 = x1 at l1
  generalize le c 1 = x2 at l2 nC
  generalize le a 2 = x3 at l3 nA
  generalize le b 2 = x4 at l4 nB
  generalize le g 4 = x5 at l5 nG
  generalize le r 2 = x6 at l6 nR
  match x1, l1, x2, l2, x3, l3, x4, l4, x5, l5, x6, l6 with
  | [p1], _, [p2], _, [p3, p4], _, [p5, p6], _, [p7, p8, p9, p10], _, [p11, p12], _ =>
    refine ⟨?_, ?_, ?_, ?_, ?_⟩
    · simpa [hG] using nG
    · simpa [hR] using nR
    · simpa [hA] using nA
    · simpa [hB] using nB
    · simp only [hC]
      rw [numL_one] at nC
      simpa using nC
theorem readL_seal (g r a b c : Nat) (h : HeadOk g r a b c) : readL (sealL (headL g r a b c)) = ⟨true, g, r, a, b, c⟩ := by
  obtain ⟨e1, e2, e3, e4, e5⟩ := headOf_seal g r a b c h
  unfold readL HeadIs headOf
  rw [e1, e2, e3, e4, e5, if_pos ⟨by rw [sealL_length, headL_length], h, rfl⟩]
theorem readL_turned (g r a b c k M : Nat) (hk : k ≤ 12) (hM : M < 4294967296) (h0 : M ≠ 0) : readL (turnTo (sealL (headL g r a b c)) k M 4) = .none := by
  have hl := headL_length g r a b c
  have hx := turned_closed (headL g r a b c) k M (by omega) hM h0
  rw [show headL g r a b c ++ le (crcSum (headL g r a b c)) 4 = sealL (headL g r a b c) from rfl] at hx
  rw [← turnTo_xor _ (headL g r a b c).length k M (by rw [sealL_length]) (by omega)] at hx
  unfold readL
  rw [if_neg]
  intro e
  apply hx
  have h2 := sealL_take (headOf (turnTo (sealL (headL g r a b c)) k M 4))
  have h3 : (headOf (turnTo (sealL (headL g r a b c)) k M 4)).length = 12 := headL_length _ _ _ _ _
  rw [e.2.2, h3] at h2
  show (turnTo (sealL (headL g r a b c)) k M 4).take (headL g r a b c).length ++ _ = _
  rw [hl, h2]
  exact e.2.2

theorem i64_and1 (n : Int) : bits .and .i64 n 1 = n % 2 := by
  have h : (BitVec.ofInt 64 1).toNat = 2 ^ 1 - 1 := by decide
  have key : (BitVec.ofInt 64 n &&& BitVec.ofInt 64 1).toNat = (n % ((2 ^ 64 : Nat) : Int)).toNat % 2 ^ 1 := by
    rw [BitVec.toNat_and, BitVec.toNat_ofInt, h, Nat.and_two_pow_sub_one_eq_mod]
  show IntKind.i64.wrap ((BitVec.ofInt 64 n &&& BitVec.ofInt 64 1).toNat : Nat) = n % 2
  rw [key, IntKind.wrap_i64]
  omega
theorem i64_and3 (n : Int) : bits .and .i64 n 3 = n % 4 := by
  have h : (BitVec.ofInt 64 3).toNat = 2 ^ 2 - 1 := by decide
  have key : (BitVec.ofInt 64 n &&& BitVec.ofInt 64 3).toNat = (n % ((2 ^ 64 : Nat) : Int)).toNat % 2 ^ 2 := by
    rw [BitVec.toNat_and, BitVec.toNat_ofInt, h, Nat.and_two_pow_sub_one_eq_mod]
  show IntKind.i64.wrap ((BitVec.ofInt 64 n &&& BitVec.ofInt 64 3).toNat : Nat) = n % 4
  rw [key, IntKind.wrap_i64]
  omega
theorem nat_and2 (X : Nat) : X &&& 2 = 2 * (X / 2 % 2) := by
  have h : X &&& 2 = (X % 4) &&& 2 := by
    have h3 : X &&& 3 = X % 4 := Nat.and_two_pow_sub_one_eq_mod X 2
    rw [← h3, Nat.and_assoc]; rfl
  rw [h]
  have hd : X / 2 % 2 = X % 4 / 2 := by omega
  rw [hd]
  have hlt : X % 4 < 4 := Nat.mod_lt _ (by decide)
  generalize X % 4 = y at hlt
  rcases (show y = 0 ∨ y = 1 ∨ y = 2 ∨ y = 3 by omega) with rfl | rfl | rfl | rfl <;> rfl
theorem i64_and2 (n : Int) : bits .and .i64 n 2 = 2 * ((n / 2) % 2) := by
  have h : (BitVec.ofInt 64 2).toNat = 2 := by decide
  have key : (BitVec.ofInt 64 n &&& BitVec.ofInt 64 2).toNat = 2 * ((n % ((2 ^ 64 : Nat) : Int)).toNat / 2 % 2) := by
    rw [BitVec.toNat_and, BitVec.toNat_ofInt, h, nat_and2]
  show IntKind.i64.wrap ((BitVec.ofInt 64 n &&& BitVec.ofInt 64 2).toNat : Nat) = _
  rw [key, IntKind.wrap_i64]
  omega

theorem xor_turn6 (x : UInt8) (M j : Nat) : bits .xor .u8 (x.toNat : Int) ((M : Int) / 2 ^ (8 * j) % 256) = ((x ^^^ UInt8.ofNat (M / 256 ^ j)).toNat : Int) := by
  rw [byte_shift, u8_xor_nat _ _ x.toNat_lt (UInt8.toNat_lt _), UInt8.toNat_xor]
theorem Bytes.far {w : World} {g : Nat} {L : List UInt8} {c : Nat} (h : Bytes w g L c) {p : Addr} (hp : g ≠ p.block) (u : Value) : Bytes (w.setCell p u) g L c := by
  obtain ⟨fz, h1, h2⟩ := h
  exact ⟨fz, (Below.heap_setCell w p u g hp).trans h1, h2⟩
end Go.Proofs.Ytencbdcfcpohaaa
