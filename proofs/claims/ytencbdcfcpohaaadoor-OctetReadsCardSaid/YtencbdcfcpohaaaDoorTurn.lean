/- Plain: what is turned within four bytes of a sealed text isn't opened. No program in sight. -/
import Derived.Test.YtencbdcfcpohaaaDoorCrc
namespace Go.Proofs.YtencbdcfcpohaaaDoor
set_option linter.unusedVariables false
set_option linter.unusedSimpArgs false

def xorL (a e : List UInt8) : List UInt8 := List.zipWith (· ^^^ ·) a e
theorem xorL_length (a e : List UInt8) (h : a.length = e.length) : (xorL a e).length = a.length := by simp [xorL, h]

theorem crcStep_xor (c d : Nat) (b f : Nat) : crcStep (c ^^^ d) (b ^^^ f) = crcStep c b ^^^ crcStep d f := by
  unfold crcStep
  rw [← crcIt_xor]
  congr 1
  rw [Nat.xor_assoc, Nat.xor_assoc, ← Nat.xor_assoc d, Nat.xor_comm d b, Nat.xor_assoc b]
theorem crcState_xor (c d : Nat) : ∀ (a e : List UInt8), a.length = e.length → crcState (c ^^^ d) (xorL a e) = crcState c a ^^^ crcState d e := by
  intro a
  induction a generalizing c d with
  | nil =>
    intro e h
    cases e with
    | nil => rfl
    | cons => simp at h
  | cons x a ih =>
    intro e h
    cases e with
    | nil => simp at h
    | cons y e =>
      simp only [xorL, List.zipWith_cons_cons, crcState, List.foldl_cons]
      rw [UInt8.toNat_xor, crcStep_xor]
      exact ih _ _ e (by simpa using h)

theorem crcIt_add (i j c : Nat) : crcIt (i + j) c = crcIt i (crcIt j c) := by
  induction i with
  | zero => simp [crcIt]
  | succ i ih => rw [Nat.add_right_comm]; simp only [crcIt, ih]
theorem crcIt_even (j y : Nat) : crcIt j (2 ^ j * y) = y := by
  induction j generalizing y with
  | zero => simp [crcIt]
  | succ j ih =>
    have e : 2 ^ (j + 1) * y = 2 ^ j * (2 * y) := by rw [Nat.pow_succ, Nat.mul_assoc]
    simp only [crcIt]
    rw [e, ih (2 * y)]
    unfold crcT
    rw [if_neg (by omega)]
    omega

/-- The number of bytes, by xor. -/
def num : List UInt8 → Nat
  | [] => 0
  | b :: l => b.toNat ^^^ (256 * num l)
theorem crcState_num (S : Nat) (l : List UInt8) : crcState S l = crcIt (8 * l.length) (S ^^^ num l) := by
  induction l generalizing S with
  | nil => simp [crcState, crcIt, num]
  | cons b l ih =>
    have h1 : crcState S (b :: l) = crcState (crcStep S b.toNat) l := rfl
    rw [h1, ih, List.length_cons, Nat.mul_add, crcIt_add]
    congr 1
    have h2 : num l = crcIt 8 (256 * num l) := (crcIt_even 8 (num l)).symm
    conv => lhs; rw [h2]
    simp only [num, crcStep]
    rw [← crcIt_xor, Nat.xor_assoc]
theorem num_lt (l : List UInt8) : num l < 256 ^ l.length := by
  induction l with
  | nil => simp [num]
  | cons b l ih =>
    have e : 256 ^ (l.length + 1) = 2 ^ (8 * (l.length + 1)) := by
      rw [show (256 : Nat) = 2 ^ 8 from rfl, ← Nat.pow_mul]
    have e' : 256 ^ (l.length + 1) = 256 * 256 ^ l.length := by rw [Nat.pow_succ, Nat.mul_comm]
    simp only [num, List.length_cons]
    rw [e]
    refine Nat.xor_lt_two_pow ?_ ?_
    · rw [← e, e']
      have := b.toNat_lt
      have : 0 < 256 ^ l.length := Nat.pow_pos (by decide)
      omega
    · rw [← e, e']
      omega
theorem num_zero {l : List UInt8} (h : num l = 0) : ∀ b ∈ l, b = 0 := by
  induction l with
  | nil => simp
  | cons b l ih =>
    simp only [num] at h
    have h1 := xor_eq_zero' h
    have := b.toNat_lt
    have hb : b.toNat = 0 := by omega
    have hl : num l = 0 := by omega
    intro x hx
    rcases List.mem_cons.1 hx with rfl | hx
    · exact UInt8.toNat.inj hb
    · exact ih hl x hx

theorem crcState_zeros (c n : Nat) : crcState c (List.replicate n 0) = crcIt (8 * n) c := by
  induction n generalizing c with
  | zero => rfl
  | succ n ih =>
    have h1 : crcState c (List.replicate (n + 1) 0) = crcState (crcStep c 0) (List.replicate n 0) := rfl
    rw [h1, ih, Nat.mul_add, crcIt_add]
    simp [crcStep]
theorem crcIt_0 (k : Nat) : crcIt k 0 = 0 := by
  induction k with
  | zero => rfl
  | succ k ih => simp [crcIt, ih, crcT]

/-- The turning: mask bytes from place k on. -/
def err (n k m : Nat) : List UInt8 := List.replicate k 0 ++ le m 4 ++ List.replicate (n - k) 0
theorem err_length (n k m : Nat) (h : k ≤ n) : (err n k m).length = n + 4 := by simp [err, le_length]; omega

theorem le_four (m : Nat) : le m 4 = [UInt8.ofNat m, UInt8.ofNat (m / 256), UInt8.ofNat (m / 65536), UInt8.ofNat (m / 16777216)] := by
  simp [le]

theorem err_zero {n k m : Nat} (hk : k ≤ n) (hm : m < 4294967296) (h : crcState 0 (err n k m) = 0) : m = 0 := by
  unfold err at h
  rw [crcState_append, crcState_append, crcState_zeros, crcState_zeros, crcIt_0, crcState_num] at h
  have hl := num_lt (le m 4)
  rw [le_length] at hl
  simp only [Nat.zero_xor] at h
  have h1 := crcIt_zero _ (crcIt_lt _ (by simpa using hl)) h
  have h2 := crcIt_zero _ (by simpa using hl) h1
  have h3 := num_zero h2
  rw [le_four] at h3
  have a0 := congrArg UInt8.toNat (h3 (UInt8.ofNat m) (by simp))
  have a1 := congrArg UInt8.toNat (h3 (UInt8.ofNat (m / 256)) (by simp))
  have a2 := congrArg UInt8.toNat (h3 (UInt8.ofNat (m / 65536)) (by simp))
  have a3 := congrArg UInt8.toNat (h3 (UInt8.ofNat (m / 16777216)) (by simp))
  simp only [UInt8.toNat_ofNat', UInt8.toNat_ofNat] at a0 a1 a2 a3
  omega

theorem ofNat_xor (a b : Nat) : UInt8.ofNat (a ^^^ b) = UInt8.ofNat a ^^^ UInt8.ofNat b := by
  apply UInt8.toNat.inj
  rw [UInt8.toNat_xor, UInt8.toNat_ofNat', UInt8.toNat_ofNat', UInt8.toNat_ofNat']
  exact Nat.xor_mod_two_pow (n := 8)
theorem le_xor (a b : Nat) : le (a ^^^ b) 4 = xorL (le a 4) (le b 4) := by
  have d : ∀ j, (a ^^^ b) / 2 ^ j = a / 2 ^ j ^^^ b / 2 ^ j := by
    intro j
    have := @Nat.shiftRight_xor_distrib j a b
    simpa [Nat.shiftRight_eq_div_pow] using this
  have d8 := d 8
  have d16 := d 16
  have d24 := d 24
  simp only [Nat.reducePow] at d8 d16 d24
  rw [le_four, le_four, le_four, d8, d16, d24]
  simp [xorL, ofNat_xor]
theorem le_inj {a b : Nat} (ha : a < 4294967296) (hb : b < 4294967296) (h : le a 4 = le b 4) : a = b := by
  rw [le_four, le_four] at h
  simp only [List.cons.injEq, and_true] at h
  obtain ⟨h0, h1, h2, h3⟩ := h
  have a0 := congrArg UInt8.toNat h0
  have a1 := congrArg UInt8.toNat h1
  have a2 := congrArg UInt8.toNat h2
  have a3 := congrArg UInt8.toNat h3
  simp only [UInt8.toNat_ofNat'] at a0 a1 a2 a3
  omega

theorem xorL_append (a b c d : List UInt8) (h : a.length = c.length) : xorL (a ++ b) (c ++ d) = xorL a c ++ xorL b d := by
  simp [xorL, List.zipWith_append h]

/-- Where the sum that stands there fits what stands ahead of it, the residue of the turning is nought. -/
theorem num_four (S : Nat) (l : List UInt8) (hl : l.length = 4) (hS : S < 4294967296) (h : le S 4 = l) : crcState S l = 0 := by
  rw [crcState_num, ← h]
  have hn : num (le S 4) = S := by
    rw [le_four]
    simp only [num, UInt8.toNat_ofNat', Nat.mul_zero, Nat.xor_zero]
    have x : ∀ b y : Nat, b < 256 → b ^^^ (256 * y) = b + 256 * y := by
      intro b y hb
      apply Nat.eq_of_testBit_eq
      intro i
      rw [Nat.testBit_xor]
      have e : b + 256 * y = 2 ^ 8 * y + b := by omega
      rw [e, Nat.testBit_two_pow_mul_add y hb, show (256 : Nat) = 2 ^ 8 from rfl, Nat.testBit_two_pow_mul]
      by_cases hi : i < 8
      · simp [hi, show ¬ 8 ≤ i by omega]
      · have : b.testBit i = false := Nat.testBit_lt_two_pow (Nat.lt_of_lt_of_le hb (show (256 : Nat) ≤ 2 ^ i from by
          have := Nat.pow_le_pow_right (show 0 < 2 by decide) (show 8 ≤ i by omega)
          simpa using this))
        simp [hi, this, show 8 ≤ i by omega]
    rw [x _ _ (by omega), x _ _ (by omega), x _ _ (by omega)]
    omega
  rw [hn, Nat.xor_self, crcIt_0]

/-- WHAT WAS TURNED WITHIN FOUR BYTES OF A SEALED TEXT ISN'T OPENED. -/
theorem turned_closed (s : List UInt8) (k m : Nat) (hk : k ≤ s.length) (hm : m < 4294967296) (h0 : m ≠ 0) :
    ¬ (let t := xorL (s ++ le (crcSum s) 4) (err s.length k m); t.take s.length ++ le (crcSum (t.take s.length)) 4 = t) := by
  intro h
  simp only at h
  apply h0
  have hel := err_length s.length k m hk
  obtain ⟨e1, e2, he, hl1⟩ : ∃ e1 e2, err s.length k m = e1 ++ e2 ∧ e1.length = s.length := ⟨(err s.length k m).take s.length, (err s.length k m).drop s.length, (List.take_append_drop _ _).symm, by rw [List.length_take, hel]; omega⟩
  have hl2 : e2.length = 4 := by
    have := congrArg List.length he
    rw [hel, List.length_append] at this
    omega
  rw [he, xorL_append _ _ _ _ hl1.symm] at h
  have ht : (xorL s e1 ++ xorL (le (crcSum s) 4) e2).take s.length = xorL s e1 := by
    rw [List.take_append_of_le_length (by rw [xorL_length _ _ hl1.symm]; omega), List.take_of_length_le (by rw [xorL_length _ _ hl1.symm]; omega)]
  rw [ht] at h
  have h2 := List.append_cancel_left h
  have h3 : crcSum (xorL s e1) = crcSum s ^^^ crcState 0 e1 := by
    have := crcState_xor 4294967295 0 s e1 hl1.symm
    rw [Nat.xor_zero] at this
    unfold crcSum
    rw [this, Nat.xor_assoc, Nat.xor_comm (crcState 0 e1), ← Nat.xor_assoc]
  rw [h3, le_xor] at h2
  have h4 : le (crcState 0 e1) 4 = e2 := by
    apply List.ext_getElem?
    intro i
    have := congrArg (fun l => l[i]?) h2
    simp only [xorL, List.getElem?_zipWith] at this
    by_cases hi : i < 4
    · have a1 : i < (le (crcSum s) 4).length := by rw [le_length]; exact hi
      have a2 : i < (le (crcState 0 e1) 4).length := by rw [le_length]; exact hi
      have a3 : i < e2.length := by omega
      rw [List.getElem?_eq_getElem a1, List.getElem?_eq_getElem a2, List.getElem?_eq_getElem a3] at this
      rw [List.getElem?_eq_getElem a2, List.getElem?_eq_getElem a3]
      simp only [Option.some.injEq] at this ⊢
      have x := congrArg ((le (crcSum s) 4)[i] ^^^ ·) this
      simpa [← UInt8.xor_assoc] using x
    · rw [List.getElem?_eq_none (by rw [le_length]; omega), List.getElem?_eq_none (by omega)]
  apply err_zero hk hm
  rw [he, crcState_append]
  exact num_four _ _ hl2 (crcState_lt e1 (by decide)) h4
end Go.Proofs.YtencbdcfcpohaaaDoor
