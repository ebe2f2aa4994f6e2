/- Plain: bytes of numbers, the sum of bytes (CRC) as a linear, one-to-one step. No program in sight. -/
import Derived.Test.YtencbdcfcpohaaaDoorKLeafBack00
import Derived.Laws.BitsAllLaws
import Derived.Laws.IdiomStrings
import Derived.Laws.BytesArg
import Derived.Lib.Strings
namespace Go.Proofs.YtencbdcfcpohaaaDoor
set_option linter.unusedVariables false
set_option linter.unusedSimpArgs false

/-- The lowest k bytes of n, the lowest first. -/
def le (n : Nat) : Nat → List UInt8
  | 0 => []
  | k + 1 => le n k ++ [UInt8.ofNat (n / 256 ^ k)]
theorem le_length (n k : Nat) : (le n k).length = k := by
  induction k with
  | zero => rfl
  | succ k ih => simp [le, ih]
theorem le_get (n k i : Nat) (h : i < k) : (le n k)[i]? = some (UInt8.ofNat (n / 256 ^ i)) := by
  induction k with
  | zero => omega
  | succ k ih =>
    simp only [le]
    by_cases hi : i < k
    · rw [List.getElem?_append_left (by rw [le_length]; exact hi)]
      exact ih hi
    · have : i = k := by omega
      subst this
      rw [List.getElem?_append_right (by rw [le_length]; omega), le_length]
      simp

/-- One bit. -/
def crcT (c : Nat) : Nat := if c % 2 = 1 then (c / 2) ^^^ 2197175160 else c / 2
def crcIt : Nat → Nat → Nat
  | 0, c => c
  | k + 1, c => crcT (crcIt k c)
/-- One byte. -/
def crcStep (c b : Nat) : Nat := crcIt 8 (c ^^^ b)
def crcState (c : Nat) (l : List UInt8) : Nat := l.foldl (fun c b => crcStep c b.toNat) c
def crcSum (l : List UInt8) : Nat := crcState 4294967295 l ^^^ 4294967295

theorem crcT_lt {c : Nat} (h : c < 4294967296) : crcT c < 4294967296 := by
  unfold crcT
  split
  · exact Nat.xor_lt_two_pow (n := 32) (by omega) (by decide)
  · omega
theorem crcIt_lt {c : Nat} (k : Nat) (h : c < 4294967296) : crcIt k c < 4294967296 := by
  induction k with
  | zero => exact h
  | succ k ih => exact crcT_lt ih
theorem crcStep_lt {c b : Nat} (h : c < 4294967296) (hb : b < 256) : crcStep c b < 4294967296 :=
  crcIt_lt 8 (Nat.xor_lt_two_pow (n := 32) h (by omega))
theorem crcState_lt {c : Nat} (l : List UInt8) (h : c < 4294967296) : crcState c l < 4294967296 := by
  induction l generalizing c with
  | nil => exact h
  | cons b l ih => exact ih (crcStep_lt h b.toNat_lt)
theorem crcSum_lt (l : List UInt8) : crcSum l < 4294967296 := Nat.xor_lt_two_pow (n := 32) (crcState_lt l (by decide)) (by decide)

theorem xor_half (a b : Nat) : (a ^^^ b) / 2 = a / 2 ^^^ b / 2 := by
  have := @Nat.shiftRight_xor_distrib 1 a b
  simpa [Nat.shiftRight_eq_div_pow] using this
theorem xor_par (a b : Nat) : (a ^^^ b) % 2 = (a % 2 + b % 2) % 2 := by
  have h : ∀ x : Nat, x % 2 = (x.testBit 0).toNat := by intro x; simp [Nat.testBit_zero]; rcases Nat.mod_two_eq_zero_or_one x with h | h <;> simp [h]
  rw [h, h a, h b, Nat.testBit_xor]
  cases a.testBit 0 <;> cases b.testBit 0 <;> rfl
theorem crcT_xor (a b : Nat) : crcT (a ^^^ b) = crcT a ^^^ crcT b := by
  unfold crcT
  rw [xor_par, xor_half]
  rcases Nat.mod_two_eq_zero_or_one a with ha | ha <;> rcases Nat.mod_two_eq_zero_or_one b with hb | hb <;> simp only [ha, hb]
  · simp
  · simp [Nat.xor_assoc]
  · simp only [Nat.reduceAdd, Nat.reduceMod, Nat.zero_ne_one, ↓reduceIte]
    rw [Nat.xor_assoc, Nat.xor_assoc, Nat.xor_comm (b / 2) 2197175160]
  · simp only [Nat.reduceAdd, Nat.reduceMod, Nat.zero_ne_one, ↓reduceIte]
    rw [Nat.xor_assoc (a / 2), ← Nat.xor_assoc 2197175160 (b / 2), Nat.xor_comm 2197175160, Nat.xor_assoc (b / 2), Nat.xor_self, Nat.xor_zero]
theorem crcIt_xor (k a b : Nat) : crcIt k (a ^^^ b) = crcIt k a ^^^ crcIt k b := by
  induction k with
  | zero => rfl
  | succ k ih => simp only [crcIt, ih, crcT_xor]
theorem crcT_zero {c : Nat} (h : c < 4294967296) (h0 : crcT c = 0) : c = 0 := by
  unfold crcT at h0
  split at h0
  · have : c / 2 = 2197175160 := by
      have e : c / 2 ^^^ 2197175160 ^^^ 2197175160 = 0 ^^^ 2197175160 := by rw [h0]
      simpa [Nat.xor_assoc] using e
    omega
  · omega
theorem crcIt_zero {c : Nat} (k : Nat) (h : c < 4294967296) (h0 : crcIt k c = 0) : c = 0 := by
  induction k with
  | zero => exact h0
  | succ k ih => exact ih (crcT_zero (crcIt_lt k h) h0)
theorem xor_eq_zero' {a b : Nat} (h : a ^^^ b = 0) : a = b := by
  have e : a ^^^ b ^^^ b = 0 ^^^ b := by rw [h]
  simpa [Nat.xor_assoc] using e
theorem crcIt_inj {a b : Nat} (k : Nat) (ha : a < 4294967296) (hb : b < 4294967296) (h : crcIt k a = crcIt k b) : a = b := by
  apply xor_eq_zero'
  refine crcIt_zero k (Nat.xor_lt_two_pow (n := 32) ha hb) ?_
  rw [crcIt_xor, h, Nat.xor_self]
theorem xor_right_inj' {a b c : Nat} (h : a ^^^ c = b ^^^ c) : a = b := by
  have e : a ^^^ c ^^^ c = b ^^^ c ^^^ c := by rw [h]
  simpa [Nat.xor_assoc] using e
theorem xor_left_inj' {a b c : Nat} (h : c ^^^ a = c ^^^ b) : a = b := by
  rw [Nat.xor_comm c, Nat.xor_comm c] at h
  exact xor_right_inj' h
theorem crcStep_inj {a c b : Nat} (ha : a < 4294967296) (hc : c < 4294967296) (hb : b < 256) (h : crcStep a b = crcStep c b) : a = c :=
  xor_right_inj' (crcIt_inj 8 (Nat.xor_lt_two_pow (n := 32) ha (by omega)) (Nat.xor_lt_two_pow (n := 32) hc (by omega)) h)
theorem crcState_inj {a c : Nat} (l : List UInt8) (ha : a < 4294967296) (hc : c < 4294967296) (h : crcState a l = crcState c l) : a = c := by
  induction l generalizing a c with
  | nil => exact h
  | cons b l ih => exact crcStep_inj ha hc b.toNat_lt (ih (crcStep_lt ha b.toNat_lt) (crcStep_lt hc b.toNat_lt) h)
theorem crcState_append (c : Nat) (a b : List UInt8) : crcState c (a ++ b) = crcState (crcState c a) b := by simp [crcState]
/-- Texts with the same beginning and end, and one byte between them. -/
theorem crcSum_parts (a b : List UInt8) (x y : UInt8) : crcSum (a ++ [x] ++ b) = crcSum (a ++ [y] ++ b) ↔ x = y := by
  constructor
  · intro h
    have h1 := xor_right_inj' h
    simp only [crcState_append] at h1
    have ha := crcState_lt a (c := 4294967295) (by decide)
    have h2 := crcState_inj b (crcState_lt [x] ha) (crcState_lt [y] ha) h1
    have h3 : crcStep (crcState 4294967295 a) x.toNat = crcStep (crcState 4294967295 a) y.toNat := h2
    have h4 := xor_left_inj' (crcIt_inj 8 (Nat.xor_lt_two_pow (n := 32) ha (by have := x.toNat_lt; omega)) (Nat.xor_lt_two_pow (n := 32) ha (by have := y.toNat_lt; omega)) h3)
    exact UInt8.toNat.inj h4
  · rintro rfl; rfl
end Go.Proofs.YtencbdcfcpohaaaDoor

/- The walks of octet.Writer: Put, Text, String. -/
namespace Go.Proofs.YtencbdcfcpohaaaDoor
set_option linter.unusedVariables false
set_option linter.unusedSimpArgs false
open Go.RowKit

def clampSize (n : Int) : Nat := (min (max n 1) 8).toNat

theorem u8_of (m : Nat) : IntKind.u8.wrap (m : Int) = ((UInt8.ofNat m).toNat : Int) := by
  simp [IntKind.wrap, IntKind.bits, IntKind.signed]

theorem width_any (n : Int) (w : World) : Calls Tryd.prog 35 #[.int .i64 n] w fun e w' => e = .returned (.int .i64 (clampSize n)) ∧ w = w' := by
  go_enter Tryd.func35, Tryd.ntmps35
  by_cases h0 : n < 1
  · go_wp2
    all_goals
      go_ret
      exact ⟨ret_int (by unfold clampSize; omega), rfl⟩
  · by_cases h8 : 8 < n
    · go_wp2
      all_goals
        go_ret
        exact ⟨ret_int (by unfold clampSize; omega), rfl⟩
    · go_wp2
      all_goals
        go_ret
        exact ⟨ret_int (by unfold clampSize; omega), rfl⟩

theorem text_any (b : Nat) (g : Option Nat) (l : List UInt8) (s : ByteArray) (w : World) (h : Wr w b g l) (hlen : l.length + s.size ≤ 140737488355328) :
    Calls Tryd.prog 13 #[.pointer (some ⟨b, 0, none⟩), .string s] w fun e w' => e = .returned (.tuple #[]) ∧ ∃ g', Wr w' b g' (l ++ s.data.toList) ∧ Wrote w b g g' w' := by
  go_enter Tryd.func13, Tryd.ntmps13
  go_wp2_with fail
  refine (writeString_any b g l s _ h hlen).mono ?_
  rintro e w1 ⟨rfl, g1, h1, k1⟩
  go_wp2_with fail
  go_end0
  exact ⟨rfl, g1, .inr h1, k1⟩

theorem ostring_some (b : Nat) (g : Option Nat) (l : List UInt8) (w : World) (h : Wr w b g l) (h0 : l ≠ []) :
    Calls Tryd.prog 15 #[.pointer (some ⟨b, 0, none⟩)] w fun e w' => e = .returned (.string ⟨l.toArray⟩) ∧ Wr w' b g l ∧ Wrote w b g g w' := by
  go_enter Tryd.func15, Tryd.ntmps15
  go_wp2_with fail
  refine (string_some b g l _ h h0).mono ?_
  rintro e w1 ⟨rfl, h1, k1⟩
  go_wp2_with fail
  go_ret
  exact ⟨rfl, h1, k1⟩

set_option maxHeartbeats 1000000 in
theorem put_any (b : Nat) (g : Option Nat) (l : List UInt8) (n : Nat) (size : Int) (w : World) (hn : n < 18446744073709551616) (h : Wr w b g l) (hlen : l.length + 8 ≤ 140737488355328) :
    Calls Tryd.prog 11 #[.pointer (some ⟨b, 0, none⟩), .int .u64 n, .int .i64 size] w fun e w' => e = .returned (.tuple #[]) ∧ ∃ g', Wr w' b g' (l ++ le n (clampSize size)) ∧ Wrote w b g g' w' := by
  have hk8 : clampSize size ≤ 8 := by unfold clampSize; omega
  go_enter Tryd.func11, Tryd.ntmps11
  go_wp2_with fail
  refine (width_any _ _).mono ?_
  rintro e w1 ⟨rfl, rfl⟩
  generalize hk : clampSize size = k at hk8 ⊢
  have Hk := Lib.hid hk
  clear hk
  go_wp2_with fail
  go_loopw [1, 10] (fun m i wr => ∃ (j M : Nat) (gj : Option Nat), j ≤ k ∧ m = .int .u64 M ∧ i = .int .i64 j ∧ Hid (M = n / 256 ^ j) ∧ M < 18446744073709551616 ∧ Wr wr b gj (l ++ le n j) ∧ Wrote w b g gj wr) (fun _ i _ => k - (intOf i).toNat)
  case atStart => exact ⟨0, n, g, by omega, rfl, rfl, by simp [Hid], hn, by simpa [le] using h, Wrote.refl _ _ _⟩
  case round =>
    obtain ⟨j, M, gj, hj, rfl, rfl, hM, hM1, hW, hR⟩ := hrel
    clear h
    by_cases hlt : j < k
    · have e1 := u8_of M
      go_wp2_with fail
      refine (writeByte_any b gj (l ++ le n j) (UInt8.ofNat M) _ hW (by rw [List.length_append, le_length]; omega)).mono ?_
      rintro e w2 ⟨rfl, g2, h2, k2⟩
      clear e1
      go_wp2_with fail
      go_roundw
      case rel =>
        refine ⟨j + 1, M / 256, g2, by omega, by go_num, by go_num, ?_, by omega, ?_, hR.trans k2⟩
        · show M / 256 = n / 256 ^ (j + 1)
          rw [hM.out, Nat.div_div_eq_div_mul, Nat.pow_succ]
        · rw [le, ← List.append_assoc, ← hM.out]
          exact .inr h2
      case measure => simp [intOf]; omega
    · obtain rfl : j = k := by omega
      go_wp2_with fail
      go_end0
      exact ⟨rfl, gj, by rw [Hk.out]; exact hW, hR⟩
end Go.Proofs.YtencbdcfcpohaaaDoor

/- Plain lemmas on uint64 bits in the walk's spelling. -/
namespace Go.Proofs.YtencbdcfcpohaaaDoor
set_option linter.unusedVariables false
set_option linter.unusedSimpArgs false
open Go.RowKit

theorem and_u64 (x m M : Int) (n : Nat) (hM : M = ((2 ^ n : Nat) : Int)) (hm : m + 1 = M) (hn : M ≤ 9223372036854775808) (h0 : 0 ≤ x) (h1 : x ≤ 18446744073709551615) : bits .and .u64 x m = x % M := by
  have hp : 0 < 2 ^ n := Nat.two_pow_pos n
  obtain ⟨X, rfl⟩ := Int.eq_ofNat_of_zero_le h0
  have e : m = ((2 ^ n - 1 : Nat) : Int) := by omega
  rw [e, u64_and_nat X (2 ^ n - 1) (by omega) (by omega), Nat.and_two_pow_sub_one_eq_mod, hM]
  rfl

theorem or_u64 (a b M : Int) (n : Nat) (hM : M = ((2 ^ n : Nat) : Int)) (ha0 : 0 ≤ a) (ha : a < M) (hb0 : 0 ≤ b) (hb1 : b ≤ 18446744073709551615) (ha1 : a ≤ 18446744073709551615) (hb : b % M = 0) : bits .or .u64 a b = a + b := by
  obtain ⟨A, rfl⟩ := Int.eq_ofNat_of_zero_le ha0
  obtain ⟨B, rfl⟩ := Int.eq_ofNat_of_zero_le hb0
  rw [u64_or_nat A B (by omega) (by omega)]
  subst hM
  have h1 : B % 2 ^ n = 0 := by exact_mod_cast hb
  have h2 : A < 2 ^ n := by omega
  rw [Nat.or_comm, nat_join n B A h1 h2]
  omega

/-- A bit set between a low part and a high one. -/
theorem or_mid_u64 (lo hi M N : Int) (n m : Nat) (hM : M = ((2 ^ n : Nat) : Int)) (hN : N = ((2 ^ m : Nat) : Int)) (hl0 : 0 ≤ lo) (hl : lo < M) (hh0 : 0 ≤ hi) (hh : hi % N = 0) (hMN : M + M ≤ N) (hs : lo + M + hi ≤ 18446744073709551615) : bits .or .u64 (lo + hi) M = lo + hi + M := by
  obtain ⟨L, rfl⟩ := Int.eq_ofNat_of_zero_le hl0
  obtain ⟨H, rfl⟩ := Int.eq_ofNat_of_zero_le hh0
  subst hM hN
  have e1 : ((L : Int) + H) = ((H + L : Nat) : Int) := by omega
  have h1 : H % 2 ^ m = 0 := by exact_mod_cast hh
  rw [e1, u64_or_nat (H + L) (2 ^ n) (by omega) (by omega)]
  rw [← nat_join m H L h1 (by omega), Nat.or_assoc, Nat.or_comm L, nat_join n (2 ^ n) L (by simp) (by omega), nat_join m H _ h1 (by omega), nat_join m H L h1 (by omega)]
  omega
end Go.Proofs.YtencbdcfcpohaaaDoor

/- '[]byte(s)' and 'string(b)': what the walk needs of them. -/
namespace Go.Proofs.YtencbdcfcpohaaaDoor
set_option linter.unusedVariables false
set_option linter.unusedSimpArgs false
open Go.RowKit

/-- '[]byte(s)': a new block of the bytes. -/
theorem conv_bytes (s : ByteArray) (w : World) (hs : s.size ≤ maxLen) : ∃ (C : Array Value) (c : Nat) (fz : Nat × Nat),
    (convert 9 26 (.string s)).run Tryd.prog w = .ok (.slice (some ⟨w.heap.size, 0, none⟩) s.size c) (w.drew.alloc (.cells C 5 fz)) ∧
    (∀ i, C[i]? = if i < s.size then some (.int .u8 ((s.data.toList.getD i 0).toNat : Int)) else if i < c then some (.int .u8 0) else none) ∧ s.size ≤ c ∧ c ≤ maxLen ∧ C.size = c ∧ fz = (c, c + 1) := by
  have hge := grownCap_ge w s.size 0 5
  have hle := grownCap_le_maxLen w s.size 0 5 hs
  have hsz : (bytesRow s (grownCap w s.size 0 5)).size = grownCap w s.size 0 5 := by
    simp only [bytesRow, Array.size_append, Array.size_map, Array.size_replicate]
    have : s.data.size = s.size := rfl
    omega
  refine ⟨_, _, _, run_bytes_of_string w 9 26 5 s Tryd.underlying9 Tryd.underlying26 Tryd.underlying5, fun i => ?_, hge, hle, hsz, by rw [hsz]⟩
  have hd : s.data.size = s.size := rfl
  by_cases hi : i < s.size
  · rw [if_pos hi, bytesRow_at s _ i (by omega)]
    congr 3
    simp [List.getD, Array.getElem?_toList, hd, hi]
  · rw [if_neg hi]
    by_cases hc : i < grownCap w s.size 0 5
    · rw [if_pos hc]
      simp only [bytesRow]
      rw [Array.getElem?_append_right (by simp only [Array.size_map]; omega), Array.getElem?_replicate, if_pos (by simp only [Array.size_map]; omega)]
    · rw [if_neg hc]
      exact Array.getElem?_eq_none (by omega)

/-- 'string(b)': of a row whose cells are the bytes l. -/
theorem conv_string (w : World) (g off cap : Nat) (l : List UInt8) (n : Nat) (hn : l.length = n) (h : ∀ i, i < n → w.cell? ⟨g, off + i, none⟩ = some (.int .u8 ((l.getD i 0).toNat : Int))) :
    (convert 26 9 (.slice (some ⟨g, off, none⟩) n cap)).run Tryd.prog w = .ok (.string ⟨l.toArray⟩) w := by
  have hr := run_convert_bytes_arg (P := Tryd.prog) w 26 5 Tryd.underlying26 Tryd.underlying5 g off n cap (l.map fun b => (b.toNat : Int)) (by simpa using hn) (fun i hi => by
    have hil : i < l.length := by omega
    rw [h i hi]
    simp [List.getD, hil]) 9 Tryd.underlying9
  have hst : strOfNums (l.map fun b => (b.toNat : Int)) = ⟨l.toArray⟩ := by
    simp [strOfNums, List.map_map, Function.comp_def]
  rw [hr, hst]
end Go.Proofs.YtencbdcfcpohaaaDoor

/- The walks of package castle: step, Sum, Seal, Open. -/
namespace Go.Proofs.YtencbdcfcpohaaaDoor
set_option linter.unusedVariables false
set_option linter.unusedSimpArgs false
open Go.RowKit

theorem and1_u32 (c : Nat) (h : c < 4294967296) : bits .and .u32 (c : Int) 1 = ((c % 2 : Nat) : Int) := by
  have := u32_and_nat c 1 h (by decide)
  rw [Nat.and_one_is_mod] at this
  exact this
theorem xor_u32 (c d : Nat) (h : c < 4294967296) (hd : d < 4294967296) : bits .xor .u32 (c : Int) (d : Int) = ((c ^^^ d : Nat) : Int) := u32_xor_nat c d h hd

set_option maxHeartbeats 1000000 in
theorem step_any (c : Nat) (b : UInt8) (w : World) (hc : c < 4294967296) : Calls Tryd.prog 76 #[.int .u32 c, .int .u8 b.toNat] w fun e w' => e = .returned (.int .u32 (crcStep c b.toNat)) ∧ w = w' := by
  have hb := b.toNat_lt
  have e0 := xor_u32 c b.toNat hc (by omega)
  have hx : c ^^^ b.toNat < 4294967296 := Nat.xor_lt_two_pow (n := 32) hc (by omega)
  go_enter Tryd.func76, Tryd.ntmps76
  go_wp2_with fail
  go_loop [0, 9] (fun x i => ∃ (k X : Nat), k ≤ 8 ∧ i = .int .i64 k ∧ x = .int .u32 X ∧ X < 4294967296 ∧ Hid (X = crcIt k (c ^^^ b.toNat))) (fun _ i => 8 - (intOf i).toNat)
  case atStart => exact ⟨0, _, by omega, rfl, rfl, hx, rfl⟩
  case round =>
    obtain ⟨k, X, hk, rfl, rfl, hX, HX⟩ := hrel
    clear e0 hx
    by_cases hlt : k < 8
    · have e1 : bits .and .u32 (X : Int) 1 = (X : Int) % 2 := (and1_u32 X hX).trans (by omega)
      by_cases hp : X % 2 = 1
      · have e4 : ((X : Int) % 2 == 1) = true := by simp; omega
        obtain ⟨Y, hY⟩ : ∃ Y, Y = (X / 2) ^^^ 2197175160 := ⟨_, rfl⟩
        have hY1 : Y < 4294967296 := by rw [hY]; exact Nat.xor_lt_two_pow (n := 32) (by omega) (by decide)
        have e2 : bits .xor .u32 ((X : Int) / 2) 2197175160 = (Y : Int) := by
          rw [hY, ← xor_u32 (X / 2) 2197175160 (by omega) (by decide), show ((X / 2 : Nat) : Int) = (X : Int) / 2 by omega]
          rfl
        have HY := Lib.hid hY
        clear hY
        go_wp2_with fail
        go_round
        case rel =>
          refine ⟨k + 1, Y, by omega, by go_num, rfl, hY1, ?_⟩
          show Y = crcT (crcIt k (c ^^^ b.toNat))
          rw [← HX.out, crcT, if_pos hp, HY.out]
        case measure => simp [intOf]; omega
      · have e4 : ((X : Int) % 2 == 1) = false := by simp; omega
        go_wp2_with fail
        go_round
        case rel =>
          refine ⟨k + 1, X / 2, by omega, by go_num, by go_num, by omega, ?_⟩
          show X / 2 = crcT (crcIt k (c ^^^ b.toNat))
          rw [← HX.out, crcT, if_neg hp]
        case measure => simp [intOf]; omega
    · obtain rfl : k = 8 := by omega
      go_wp2_with fail
      go_ret
      exact ⟨ret_int (by rw [HX.out]; rfl), rfl⟩

theorem crc_snoc (s : ByteArray) (k : Nat) (h : k < s.size) : crcState 4294967295 (s.data.toList.take (k + 1)) = crcStep (crcState 4294967295 (s.data.toList.take k)) (s.data.toList.getD k 0).toNat := by
  have hl : k < s.data.toList.length := by simpa using h
  rw [List.take_succ_eq_append_getElem hl, crcState_append]
  simp only [crcState, List.foldl_cons, List.foldl_nil, List.getD, List.getElem?_eq_getElem hl, Option.getD_some]

set_option maxRecDepth 10000 in
set_option maxHeartbeats 1000000 in
theorem sum_any (s : ByteArray) (w : World) (hs : s.size ≤ 140737488355328) :
    Calls Tryd.prog 63 #[.string s] w fun e w' => e = .returned (.int .u32 (crcSum s.data.toList)) ∧ Below w.heap.size w w' := by
  obtain ⟨C, c, fz, hcv, hC, hc1, hc2, hc3, hfz⟩ := conv_bytes s w (by unfold maxLen; omega)
  have hCell : ∀ i, i < s.size → (w.alloc (.cells C 5 fz)).cell? ⟨w.heap.size, i, none⟩ = some (.int .u8 ((s.data.toList.getD i 0).toNat : Int)) := by
    intro i hi
    have := (cell_of_row (w.alloc (.cells C 5 fz)) w.heap.size i C 5 fz (heap_alloc_new w _)).trans (hC i)
    rw [this, if_pos hi]
  have HC := Lib.hid hCell
  clear hC hc3 hfz hCell
  go_enter Tryd.func63, Tryd.ntmps63
  go_wp2_with fail
  go_loop [3, 5, 9] (fun x _ i => ∃ (k X : Nat), k ≤ s.size ∧ i = .int .i64 k ∧ x = .int .u32 X ∧ X < 4294967296 ∧ Hid (X = crcState 4294967295 (s.data.toList.take k))) (fun _ _ i => s.size - (intOf i).toNat)
  case atStart => exact ⟨0, 4294967295, by omega, rfl, rfl, by omega, by simp [Hid, crcState]⟩
  case round =>
    obtain ⟨k, X, hk, rfl, rfl, hX, HX⟩ := hrel
    by_cases hlt : k < s.size
    · have hcell := HC.out k hlt
      have HS := Lib.hid (crc_snoc s k hlt)
      generalize s.data.toList.getD k 0 = b at hcell HS
      go_wp2_with fail
      refine (step_any X b _ hX).mono ?_
      rintro e w1 ⟨rfl, rfl⟩
      go_wp2_with fail
      go_round
      case rel => exact ⟨k + 1, crcStep X b.toNat, by omega, by go_num, rfl, crcStep_lt hX b.toNat_lt, by show _ = _; rw [HS.out, HX.out]⟩
      case measure => simp [intOf]; omega
    · obtain rfl : k = s.size := by omega
      have e1 : bits .xor .u32 (X : Int) 4294967295 = ((crcSum s.data.toList : Nat) : Int) := by
        have h1 := xor_u32 X 4294967295 hX (by decide)
        have h2 : X ^^^ 4294967295 = crcSum s.data.toList := by
          rw [HX.out, List.take_of_length_le (by simp)]; rfl
        rw [h2] at h1
        exact h1
      generalize hZ : crcSum s.data.toList = Z at e1 ⊢
      have HZ := Lib.hid hZ
      clear hZ
      go_wp2_with fail
      go_ret
      exact ⟨ret_int (by rw [HZ.out]), by (repeat (first | with_reducible exact Below.refl _ _ | with_reducible assumption | with_reducible apply Below.drew | with_reducible apply below_drewN | (with_reducible refine below_set ?_ ?_; focus ((try simp); (try omega); done)) | (with_reducible refine below_new ?_ ?_; focus ((try simp); (try omega); done))))⟩

def sealL (l : List UInt8) : List UInt8 := l ++ le (crcSum l) 4
theorem sealL_length (l : List UInt8) : (sealL l).length = l.length + 4 := by simp [sealL, le_length]

theorem wr_range {w w' : World} {b : Nat} {g g' : Option Nat} (h : Wrote w b g g' w') (hA : ∀ k, g = some k → b ≤ k) (hb : b ≤ w.heap.size) : ∀ k, g' = some k → b ≤ k := h.own_from hb hA

set_option maxHeartbeats 1000000 in
theorem seal_any (s : ByteArray) (w : World) (hs : s.size ≤ 1099511627776) :
    Calls Tryd.prog 42 #[.string s] w fun e w' => e = .returned (.string ⟨(sealL s.data.toList).toArray⟩) ∧ Below w.heap.size w w' := by
  have hsz : s.data.toList.length = s.size := by simp
  have Hsz := Lib.hid hsz
  clear hsz
  go_enter Tryd.func42, Tryd.ntmps42
  go_wp2_with fail
  have h0 : Wr (w.alloc (.cells #[.pointer none, .slice none 0 0] 30)) w.heap.size none [] := Wr.new_ rfl
  have b0 : Below w.heap.size w (w.alloc (.cells #[.pointer none, .slice none 0 0] 30)) := by (repeat (first | with_reducible exact Below.refl _ _ | with_reducible assumption | with_reducible apply Below.drew | with_reducible apply below_drewN | (with_reducible refine below_set ?_ ?_; focus ((try simp); (try omega); done)) | (with_reducible refine below_new ?_ ?_; focus ((try simp); (try omega); done))))
  refine (text_any w.heap.size none [] s _ h0 (by simp; omega)).mono ?_
  rintro e w1 ⟨rfl, g1, h1, k1⟩
  have r1 := wr_range k1 (fun k e => by cases e) (by simp)
  have b1 := k1.below b0 (by simp) (Nat.le_refl _) (fun k e => by cases e)
  have z1 := b1.size
  clear h0 b0 k1
  go_wp2_with fail
  refine (sum_any s _ (by omega)).mono ?_
  rintro e w2 ⟨rfl, hb2⟩
  have h2 := h1.below hb2
  have b2 : Below w.heap.size w w2 := b1.trans (hb2.mono z1)
  have z2 := b2.size
  clear h1 b1 hb2 z1
  have hlt := crcSum_lt s.data.toList
  generalize hZ : crcSum s.data.toList = Z at hlt ⊢
  have HZ := Lib.hid hZ
  clear hZ
  go_wp2_with fail
  refine (put_any w.heap.size g1 _ Z 4 _ (by omega) h2 (by rw [List.nil_append, Hsz.out]; omega)).mono ?_
  rintro e w3 ⟨rfl, g3, h3, k3⟩
  have r3 := wr_range k3 r1 z2
  have b3 := k3.below b2 z2 (Nat.le_refl _) r1
  have z3 := b3.size
  clear h2 k3 b2 z2
  have hne : [] ++ s.data.toList ++ le Z (clampSize 4) ≠ [] := by
    intro e
    have := congrArg List.length e
    rw [List.length_append, le_length, show clampSize 4 = 4 by decide] at this
    simp at this
  have HN := Lib.hid hne
  clear hne
  go_wp2_with fail
  refine (ostring_some w.heap.size g3 _ _ h3 HN.out).mono ?_
  rintro e w4 ⟨rfl, h4, k4⟩
  have b4 := k4.below b3 z3 (Nat.le_refl _) r3
  clear h3 h4 k4 b3 z3 HN
  go_wp2_with fail
  go_ret
  exact ⟨by rw [← HZ.out]; rfl, b4⟩

/-- The bytes ahead of a sum that is theirs. -/
def openL (l : List UInt8) : Bool := decide (4 ≤ l.length) && decide (sealL (l.take (l.length - 4)) = l)

set_option maxHeartbeats 1000000 in
theorem open_short (s : ByteArray) (w : World) (hs : s.size < 4) :
    Calls Tryd.prog 47 #[.string s] w fun e w' => e = .returned (.tuple #[.string ⟨#[]⟩, .bool false]) ∧ Below w.heap.size w w' := by
  go_enter Tryd.func47, Tryd.ntmps47
  go_wp2_with fail
  go_ret2
  exact ⟨rfl, by (repeat (first | with_reducible exact Below.refl _ _ | with_reducible assumption | with_reducible apply Below.drew | with_reducible apply below_drewN | (with_reducible refine below_set ?_ ?_; focus ((try simp); (try omega); done)) | (with_reducible refine below_new ?_ ?_; focus ((try simp); (try omega); done))))⟩

theorem bytes_eta (s : ByteArray) : (⟨s.data.toList.toArray⟩ : ByteArray) = s := by simp
theorem str_ext {q s : ByteArray} (h : q.data.toList = s.data.toList) : q = s := by rw [← bytes_eta q, h, bytes_eta]
theorem str_ne {q s : ByteArray} (h : ¬ q = s) : (q.toList == s.toList) = false := by
  rw [beq_eq_false_iff_ne, ByteArray.toList_eq, ByteArray.toList_eq]
  exact fun e => h (str_ext e)
theorem cut_data (s : ByteArray) (n : Nat) (h : n ≤ s.size) : (s.extract 0 n).data.toList = s.data.toList.take n := by
  have := Lib.extract_data s 0 n
  rw [this, List.drop_zero, Nat.sub_zero]
theorem cut_eq (s : ByteArray) (n : Nat) (h : n ≤ s.size) : s.extract 0 n = ⟨(s.data.toList.take n).toArray⟩ := by
  rw [← cut_data s n h, bytes_eta]

theorem seal_cut (s q : ByteArray) (w : World) (hs : 4 ≤ s.size) (hs2 : s.size ≤ 1099511627776) (h : (⟨(sealL (s.data.toList.take (s.size - 4))).toArray⟩ : ByteArray) = q) :
    Calls Tryd.prog 42 #[.string (s.extract 0 (s.size - 4))] w fun e w' => e = .returned (.string q) ∧ Below w.heap.size w w' := by
  have := seal_any (s.extract 0 (s.size - 4)) w (by rw [ByteArray.size_extract]; omega)
  rw [cut_data s _ (by omega), h] at this
  exact this

set_option maxHeartbeats 1000000 in
theorem open_yes (s : ByteArray) (w : World) (hs : 4 ≤ s.size) (hs2 : s.size ≤ 1099511627776) (h : sealL (s.data.toList.take (s.size - 4)) = s.data.toList) :
    Calls Tryd.prog 47 #[.string s] w fun e w' => e = .returned (.tuple #[.string ⟨(s.data.toList.take (s.size - 4)).toArray⟩, .bool true]) ∧ Below w.heap.size w w' := by
  have H := Lib.hid (fun W => seal_cut s s W hs hs2 (by rw [h, bytes_eta]))
  clear h
  go_enter Tryd.func47, Tryd.ntmps47
  go_wp2_with fail
  refine (H.out _).mono ?_
  rintro e w1 ⟨rfl, hb⟩
  go_wp2_with fail
  go_ret2
  exact ⟨by rw [← cut_eq s (s.size - 4) (by omega)]; rfl, hb⟩

set_option maxHeartbeats 1000000 in
theorem open_no (s : ByteArray) (w : World) (hs : 4 ≤ s.size) (hs2 : s.size ≤ 1099511627776) (h : ¬ sealL (s.data.toList.take (s.size - 4)) = s.data.toList) :
    Calls Tryd.prog 47 #[.string s] w fun e w' => e = .returned (.tuple #[.string ⟨#[]⟩, .bool false]) ∧ Below w.heap.size w w' := by
  obtain ⟨q, hq⟩ : ∃ q : ByteArray, (⟨(sealL (s.data.toList.take (s.size - 4))).toArray⟩ : ByteArray) = q := ⟨_, rfl⟩
  have hne : (q.toList == s.toList) = false := str_ne (fun e => h (by rw [e] at hq; have := congrArg (fun x : ByteArray => x.data.toList) hq; simpa using this))
  have H := Lib.hid (fun W => seal_cut s q W hs hs2 hq)
  clear h hq
  go_enter Tryd.func47, Tryd.ntmps47
  go_wp2_with fail
  refine (H.out _).mono ?_
  rintro e w1 ⟨rfl, hb⟩
  go_wp2_with fail
  go_ret2
  exact ⟨rfl, hb⟩
end Go.Proofs.YtencbdcfcpohaaaDoor

/- A writer of the call's own: what lies below it has not turned. -/
namespace Go.Proofs.YtencbdcfcpohaaaDoor
set_option linter.unusedVariables false
set_option linter.unusedSimpArgs false
open Go.RowKit

/-- Block b is a writer that holds L; below b the world is as A. -/
def Ws (A : World) (b : Nat) (L : List UInt8) (w : World) : Prop := ∃ g, Wr w b g L ∧ (∀ k, g = some k → b ≤ k) ∧ Below b A w ∧ b ≤ w.heap.size
section
variable {A w w' : World} {b : Nat} {L : List UInt8}
theorem Ws.new_ {b : Nat} (hb : b = A.heap.size) : Ws A b [] (A.alloc (.cells #[.pointer none, .slice none 0 0] 30)) :=
  ⟨none, Wr.new_ hb, (fun k e => by cases e), by subst hb; exact Below.alloc (Below.refl _ _) (Nat.le_refl _) _, by subst hb; simp⟩
theorem Ws.blk (h : Ws A b L w) {k : Nat} {t : TypeId} {cs : Array Value} (hk : Blk A k t cs) (hb : k < b) : Blk w k t cs := by
  obtain ⟨g, _, _, hA, _⟩ := h
  exact hk.below hA hb
theorem Ws.below_ (h : Ws A b L w) : Below b A w := by
  obtain ⟨g, _, _, hA, _⟩ := h
  exact hA
theorem Ws.size (h : Ws A b L w) : b < w.heap.size := by
  obtain ⟨g, hW, _, _, hs⟩ := h
  exact hW.lt
theorem Ws.drew (h : Ws A b L w) : Ws A b L w.drew := by
  obtain ⟨g, hW, hg, hA, hs⟩ := h
  exact ⟨g, hW.drew, hg, hA.drew, hs⟩
theorem Ws.alloc (h : Ws A b L w) (o : Obj) : Ws A b L (w.alloc o) := by
  obtain ⟨g, hW, hg, hA, hs⟩ := h
  exact ⟨g, hW.alloc o, hg, hA.alloc hs o, by simp; omega⟩
theorem Ws.call (h : Ws A b L w) (hb : Below w.heap.size w w') : Ws A b L w' := by
  obtain ⟨g, hW, hg, hA, hs⟩ := h
  exact ⟨g, hW.below hb, hg, hA.trans (hb.mono hs), Nat.le_trans hs hb.size⟩
theorem Ws.wrote (h : Ws A b L w) {L' : List UInt8} (hh : ∀ g, Wr w b g L → (∃ g', Wr w' b g' L' ∧ Wrote w b g g' w')) : Ws A b L' w' := by
  obtain ⟨g, hW, hg, hA, hs⟩ := h
  obtain ⟨g', hW', hK⟩ := hh g hW
  exact ⟨g', hW', hK.own_from hs hg, hK.below hA hs (Nat.le_refl _) hg, Nat.le_trans hs hK.size⟩
end

theorem ws_put {A : World} {b : Nat} {L : List UInt8} {w : World} (h : Ws A b L w) (n : Nat) (size : Int) (k : Nat) (hk : clampSize size = k) (hn : n < 18446744073709551616) (hlen : L.length + 8 ≤ 140737488355328) :
    Calls Tryd.prog 11 #[.pointer (some ⟨b, 0, none⟩), .int .u64 n, .int .i64 size] w fun e w' => e = .returned (.tuple #[]) ∧ Ws A b (L ++ le n k) w' := by
  subst hk
  obtain ⟨g, hW, hg, hA, hs⟩ := h
  refine (put_any b g L n size w hn hW hlen).mono ?_
  rintro e w' ⟨rfl, g', hW', hK⟩
  exact ⟨rfl, g', hW', hK.own_from hs hg, hK.below hA hs (Nat.le_refl _) hg, Nat.le_trans hs hK.size⟩
theorem ws_text {A : World} {b : Nat} {L : List UInt8} {w : World} (h : Ws A b L w) (s : ByteArray) (hlen : L.length + s.size ≤ 140737488355328) :
    Calls Tryd.prog 13 #[.pointer (some ⟨b, 0, none⟩), .string s] w fun e w' => e = .returned (.tuple #[]) ∧ Ws A b (L ++ s.data.toList) w' := by
  obtain ⟨g, hW, hg, hA, hs⟩ := h
  refine (text_any b g L s w hW hlen).mono ?_
  rintro e w' ⟨rfl, g', hW', hK⟩
  exact ⟨rfl, g', hW', hK.own_from hs hg, hK.below hA hs (Nat.le_refl _) hg, Nat.le_trans hs hK.size⟩
theorem ws_string {A : World} {b : Nat} {L : List UInt8} {w : World} (h : Ws A b L w) (h0 : L ≠ []) :
    Calls Tryd.prog 15 #[.pointer (some ⟨b, 0, none⟩)] w fun e w' => e = .returned (.string ⟨L.toArray⟩) ∧ Ws A b L w' := by
  obtain ⟨g, hW, hg, hA, hs⟩ := h
  refine (ostring_some b g L w hW h0).mono ?_
  rintro e w' ⟨rfl, hW', hK⟩
  exact ⟨rfl, g, hW', hK.own_from hs hg, hK.below hA hs (Nat.le_refl _) hg, Nat.le_trans hs hK.size⟩
end Go.Proofs.YtencbdcfcpohaaaDoor

/- The walks of octet.Reader: Of, Take, Get, End. -/
namespace Go.Proofs.YtencbdcfcpohaaaDoor
set_option linter.unusedVariables false
set_option linter.unusedSimpArgs false
open Go.RowKit

/-- A reader's cells: what is left, and whether there were too few bytes. -/
def rdr (s : ByteArray) (short : Bool) : Array Value := #[.string s, .bool short]

theorem of_any (s : ByteArray) (w : World) : Calls Tryd.prog 17 #[.string s] w fun e w' => e = .returned (.pointer (some ⟨w.heap.size, 0, none⟩)) ∧ Upd w w.heap.size 86 (rdr s false) w' := by
  go_enter Tryd.func17, Tryd.ntmps17
  go_wp2
  go_ret
  exact ⟨rfl, Blk.new _ _ _, only_alloc (World.grownBy.refl w _) _⟩

/-- The next bytes: with enough of them. -/
theorem take_yes (g : Nat) (s : ByteArray) (short : Bool) (n : Nat) (w : World) (h : Blk w g 86 (rdr s short)) (hn : n ≤ s.size) (hs : s.size ≤ 9223372036854775807) :
    Calls Tryd.prog 22 #[.pointer (some ⟨g, 0, none⟩), .int .i64 n] w fun e w' => e = .returned (.string (s.extract 0 n)) ∧ Upd w g 86 (rdr (s.extract n s.size) short) w' := by
  have c0 : w.cell? ⟨g, 0, none⟩ = some (.string s) := h.cell 0
  have c1 : w.cell? ⟨g, 1, none⟩ = some (.bool short) := h.cell 1
  have f0 : w.frozen? ⟨g, 0, none⟩ = false := h.frozen 0
  have f1 : w.frozen? ⟨g, 1, none⟩ = false := h.frozen 1
  have H := Lib.hid h
  clear h
  go_enter Tryd.func22, Tryd.ntmps22
  go_wp2
  go_ret
  exact ⟨rfl, (Upd.refl H.out).set 0 _⟩
theorem take_short (g : Nat) (s : ByteArray) (short : Bool) (n : Nat) (w : World) (h : Blk w g 86 (rdr s short)) (hn : s.size < n) (hn2 : n ≤ 9223372036854775807) :
    Calls Tryd.prog 22 #[.pointer (some ⟨g, 0, none⟩), .int .i64 n] w fun e w' => e = .returned (.string ⟨#[]⟩) ∧ Upd w g 86 (rdr ⟨#[]⟩ true) w' := by
  have c0 : w.cell? ⟨g, 0, none⟩ = some (.string s) := h.cell 0
  have c1 : w.cell? ⟨g, 1, none⟩ = some (.bool short) := h.cell 1
  have f0 : w.frozen? ⟨g, 0, none⟩ = false := h.frozen 0
  have f1 : w.frozen? ⟨g, 1, none⟩ = false := h.frozen 1
  have H := Lib.hid h
  clear h
  go_enter Tryd.func22, Tryd.ntmps22
  go_wp2
  go_ret
  exact ⟨rfl, ((Upd.refl H.out).set 0 _).set 1 _⟩
theorem take_neg (g : Nat) (s : ByteArray) (short : Bool) (n : Int) (w : World) (hn : n < 0) :
    Calls Tryd.prog 22 #[.pointer (some ⟨g, 0, none⟩), .int .i64 n] w fun e w' => e = .returned (.string ⟨#[]⟩) ∧ w = w' := by
  go_enter Tryd.func22, Tryd.ntmps22
  go_wp2
  go_ret
  exact ⟨rfl, rfl⟩
theorem end_yes (g : Nat) (s : ByteArray) (w : World) (h : Blk w g 86 (rdr s false)) (h0 : s.size = 0) :
    Calls Tryd.prog 24 #[.pointer (some ⟨g, 0, none⟩)] w fun e w' => e = .returned (.int .i64 0) ∧ w = w' := by
  have c0 : w.cell? ⟨g, 0, none⟩ = some (.string s) := h.cell 0
  have c1 : w.cell? ⟨g, 1, none⟩ = some (.bool false) := h.cell 1
  clear h
  have hz : s.toList.isEmpty = true := by rw [ByteArray.toList_eq]; simp; exact Array.eq_empty_of_size_eq_zero h0
  go_enter Tryd.func24, Tryd.ntmps24
  go_wp2
  go_ret
  exact ⟨rfl, rfl⟩
theorem end_no (g : Nat) (s : ByteArray) (short : Bool) (w : World) (h : Blk w g 86 (rdr s short)) (h0 : short = false → s.size ≠ 0) :
    Calls Tryd.prog 24 #[.pointer (some ⟨g, 0, none⟩)] w fun e w' => e = .returned (.int .i64 3) ∧ w = w' := by
  have c0 : w.cell? ⟨g, 0, none⟩ = some (.string s) := h.cell 0
  have c1 : w.cell? ⟨g, 1, none⟩ = some (.bool short) := h.cell 1
  clear h
  cases short
  · have hz : s.toList.isEmpty = false := by rw [ByteArray.toList_eq]; simp; exact fun e => h0 rfl (by rw [ByteArray.size, e]; rfl)
    clear h0
    go_enter Tryd.func24, Tryd.ntmps24
    go_wp2
    go_ret
    exact ⟨rfl, rfl⟩
  · clear h0
    go_enter Tryd.func24, Tryd.ntmps24
    go_wp2
    go_ret
    exact ⟨rfl, rfl⟩
end Go.Proofs.YtencbdcfcpohaaaDoor
