/- Plain: bytes of numbers, the sum of bytes (CRC) as a linear, one-to-one step. No program in sight. -/
import Derived.Test.YtencbdcfcpohaaaDoorMem
namespace Go.Proofs.YtencbdcfcpohaaaDoor
set_option linter.unusedVariables false
set_option linter.unusedSimpArgs false

/-- The lowest k bytes of n, the lowest first. -/
def le (n : Nat) : Nat → List UInt8
  | 0 => []
  | k + 1 => le n k ++ [UInt8.ofNat (n / 256 ^ k)]
theorem le_length (n k : Nat) : (le n k).length = k := by
  induction k with
  | zero => rfl
  | succ k ih => simp [le, ih]
theorem le_get (n k i : Nat) (h : i < k) : (le n k)[i]? = some (UInt8.ofNat (n / 256 ^ i)) := by
  induction k with
  | zero => omega
  | succ k ih =>
    simp only [le]
    by_cases hi : i < k
    · rw [List.getElem?_append_left (by rw [le_length]; exact hi)]
      exact ih hi
    · have : i = k := by omega
      subst this
      rw [List.getElem?_append_right (by rw [le_length]; omega), le_length]
      simp

/-- One bit. -/
def crcT (c : Nat) : Nat := if c % 2 = 1 then (c / 2) ^^^ 2197175160 else c / 2
def crcIt : Nat → Nat → Nat
  | 0, c => c
  | k + 1, c => crcT (crcIt k c)
/-- One byte. -/
def crcStep (c b : Nat) : Nat := crcIt 8 (c ^^^ b)
def crcState (c : Nat) (l : List UInt8) : Nat := l.foldl (fun c b => crcStep c b.toNat) c
def crcSum (l : List UInt8) : Nat := crcState 4294967295 l ^^^ 4294967295

theorem crcT_lt {c : Nat} (h : c < 4294967296) : crcT c < 4294967296 := by
  unfold crcT
  split
  · exact Nat.xor_lt_two_pow (n := 32) (by omega) (by decide)
  · omega
theorem crcIt_lt {c : Nat} (k : Nat) (h : c < 4294967296) : crcIt k c < 4294967296 := by
  induction k with
  | zero => exact h
  | succ k ih => exact crcT_lt ih
theorem crcStep_lt {c b : Nat} (h : c < 4294967296) (hb : b < 256) : crcStep c b < 4294967296 :=
  crcIt_lt 8 (Nat.xor_lt_two_pow (n := 32) h (by omega))
theorem crcState_lt {c : Nat} (l : List UInt8) (h : c < 4294967296) : crcState c l < 4294967296 := by
  induction l generalizing c with
  | nil => exact h
  | cons b l ih => exact ih (crcStep_lt h b.toNat_lt)
theorem crcSum_lt (l : List UInt8) : crcSum l < 4294967296 := Nat.xor_lt_two_pow (n := 32) (crcState_lt l (by decide)) (by decide)

theorem xor_half (a b : Nat) : (a ^^^ b) / 2 = a / 2 ^^^ b / 2 := by
  have := @Nat.shiftRight_xor_distrib 1 a b
  simpa [Nat.shiftRight_eq_div_pow] using this
theorem xor_par (a b : Nat) : (a ^^^ b) % 2 = (a % 2 + b % 2) % 2 := by
  have h : ∀ x : Nat, x % 2 = (x.testBit 0).toNat := by intro x; simp [Nat.testBit_zero]; rcases Nat.mod_two_eq_zero_or_one x with h | h <;> simp [h]
  rw [h, h a, h b, Nat.testBit_xor]
  cases a.testBit 0 <;> cases b.testBit 0 <;> rfl
theorem crcT_xor (a b : Nat) : crcT (a ^^^ b) = crcT a ^^^ crcT b := by
  unfold crcT
  rw [xor_par, xor_half]
  rcases Nat.mod_two_eq_zero_or_one a with ha | ha <;> rcases Nat.mod_two_eq_zero_or_one b with hb | hb <;> simp only [ha, hb]
  · simp
  · simp [Nat.xor_assoc]
  · simp only [Nat.reduceAdd, Nat.reduceMod, Nat.zero_ne_one, ↓reduceIte]
    rw [Nat.xor_assoc, Nat.xor_assoc, Nat.xor_comm (b / 2) 2197175160]
  · simp only [Nat.reduceAdd, Nat.reduceMod, Nat.zero_ne_one, ↓reduceIte]
    rw [Nat.xor_assoc (a / 2), ← Nat.xor_assoc 2197175160 (b / 2), Nat.xor_comm 2197175160, Nat.xor_assoc (b / 2), Nat.xor_self, Nat.xor_zero]
theorem crcIt_xor (k a b : Nat) : crcIt k (a ^^^ b) = crcIt k a ^^^ crcIt k b := by
  induction k with
  | zero => rfl
  | succ k ih => simp only [crcIt, ih, crcT_xor]
theorem crcT_zero {c : Nat} (h : c < 4294967296) (h0 : crcT c = 0) : c = 0 := by
  unfold crcT at h0
  split at h0
  · have : c / 2 = 2197175160 := by
      have e : c / 2 ^^^ 2197175160 ^^^ 2197175160 = 0 ^^^ 2197175160 := by rw [h0]
      simpa [Nat.xor_assoc] using e
    omega
  · omega
theorem crcIt_zero {c : Nat} (k : Nat) (h : c < 4294967296) (h0 : crcIt k c = 0) : c = 0 := by
  induction k with
  | zero => exact h0
  | succ k ih => exact ih (crcT_zero (crcIt_lt k h) h0)
theorem xor_eq_zero' {a b : Nat} (h : a ^^^ b = 0) : a = b := by
  have e : a ^^^ b ^^^ b = 0 ^^^ b := by rw [h]
  simpa [Nat.xor_assoc] using e
theorem crcIt_inj {a b : Nat} (k : Nat) (ha : a < 4294967296) (hb : b < 4294967296) (h : crcIt k a = crcIt k b) : a = b := by
  apply xor_eq_zero'
  refine crcIt_zero k (Nat.xor_lt_two_pow (n := 32) ha hb) ?_
  rw [crcIt_xor, h, Nat.xor_self]
theorem xor_right_inj' {a b c : Nat} (h : a ^^^ c = b ^^^ c) : a = b := by
  have e : a ^^^ c ^^^ c = b ^^^ c ^^^ c := by rw [h]
  simpa [Nat.xor_assoc] using e
theorem xor_left_inj' {a b c : Nat} (h : c ^^^ a = c ^^^ b) : a = b := by
  rw [Nat.xor_comm c, Nat.xor_comm c] at h
  exact xor_right_inj' h
theorem crcStep_inj {a c b : Nat} (ha : a < 4294967296) (hc : c < 4294967296) (hb : b < 256) (h : crcStep a b = crcStep c b) : a = c :=
  xor_right_inj' (crcIt_inj 8 (Nat.xor_lt_two_pow (n := 32) ha (by omega)) (Nat.xor_lt_two_pow (n := 32) hc (by omega)) h)
theorem crcState_inj {a c : Nat} (l : List UInt8) (ha : a < 4294967296) (hc : c < 4294967296) (h : crcState a l = crcState c l) : a = c := by
  induction l generalizing a c with
  | nil => exact h
  | cons b l ih => exact crcStep_inj ha hc b.toNat_lt (ih (crcStep_lt ha b.toNat_lt) (crcStep_lt hc b.toNat_lt) h)
theorem crcState_append (c : Nat) (a b : List UInt8) : crcState c (a ++ b) = crcState (crcState c a) b := by simp [crcState]
/-- Texts with the same beginning and end, and one byte between them. -/
theorem crcSum_parts (a b : List UInt8) (x y : UInt8) : crcSum (a ++ [x] ++ b) = crcSum (a ++ [y] ++ b) ↔ x = y := by
  constructor
  · intro h
    have h1 := xor_right_inj' h
    simp only [crcState_append] at h1
    have ha := crcState_lt a (c := 4294967295) (by decide)
    have h2 := crcState_inj b (crcState_lt [x] ha) (crcState_lt [y] ha) h1
    have h3 : crcStep (crcState 4294967295 a) x.toNat = crcStep (crcState 4294967295 a) y.toNat := h2
    have h4 := xor_left_inj' (crcIt_inj 8 (Nat.xor_lt_two_pow (n := 32) ha (by have := x.toNat_lt; omega)) (Nat.xor_lt_two_pow (n := 32) ha (by have := y.toNat_lt; omega)) h3)
    exact UInt8.toNat.inj h4
  · rintro rfl; rfl
end Go.Proofs.YtencbdcfcpohaaaDoor
