/- Plain: what is turned within four bytes of a sealed text isn't opened. No program in sight. -/
import Derived.Test.YtencbdcfcpohaaaDoorKLeafBack01
import Derived.Lib.SmallJoins
namespace Go.Proofs.YtencbdcfcpohaaaDoor
set_option linter.unusedVariables false
set_option linter.unusedSimpArgs false

def xorL (a e : List UInt8) : List UInt8 := List.zipWith (· ^^^ ·) a e
theorem xorL_length (a e : List UInt8) (h : a.length = e.length) : (xorL a e).length = a.length := by simp [xorL, h]

theorem crcStep_xor (c d : Nat) (b f : Nat) : crcStep (c ^^^ d) (b ^^^ f) = crcStep c b ^^^ crcStep d f := by
  unfold crcStep
  rw [← crcIt_xor]
  congr 1
  rw [Nat.xor_assoc, Nat.xor_assoc, ← Nat.xor_assoc d, Nat.xor_comm d b, Nat.xor_assoc b]
theorem crcState_xor (c d : Nat) : ∀ (a e : List UInt8), a.length = e.length → crcState (c ^^^ d) (xorL a e) = crcState c a ^^^ crcState d e := by
  intro a
  induction a generalizing c d with
  | nil =>
    intro e h
    cases e with
    | nil => rfl
    | cons => simp at h
  | cons x a ih =>
    intro e h
    cases e with
    | nil => simp at h
    | cons y e =>
      simp only [xorL, List.zipWith_cons_cons, crcState, List.foldl_cons]
      rw [UInt8.toNat_xor, crcStep_xor]
      exact ih _ _ e (by simpa using h)

theorem crcIt_add (i j c : Nat) : crcIt (i + j) c = crcIt i (crcIt j c) := by
  induction i with
  | zero => simp [crcIt]
  | succ i ih => rw [Nat.add_right_comm]; simp only [crcIt, ih]
theorem crcIt_even (j y : Nat) : crcIt j (2 ^ j * y) = y := by
  induction j generalizing y with
  | zero => simp [crcIt]
  | succ j ih =>
    have e : 2 ^ (j + 1) * y = 2 ^ j * (2 * y) := by rw [Nat.pow_succ, Nat.mul_assoc]
    simp only [crcIt]
    rw [e, ih (2 * y)]
    unfold crcT
    rw [if_neg (by omega)]
    omega

/-- The number of bytes, by xor. -/
def num : List UInt8 → Nat
  | [] => 0
  | b :: l => b.toNat ^^^ (256 * num l)
theorem crcState_num (S : Nat) (l : List UInt8) : crcState S l = crcIt (8 * l.length) (S ^^^ num l) := by
  induction l generalizing S with
  | nil => simp [crcState, crcIt, num]
  | cons b l ih =>
    have h1 : crcState S (b :: l) = crcState (crcStep S b.toNat) l := rfl
    rw [h1, ih, List.length_cons, Nat.mul_add, crcIt_add]
    congr 1
    have h2 : num l = crcIt 8 (256 * num l) := (crcIt_even 8 (num l)).symm
    conv => lhs; rw [h2]
    simp only [num, crcStep]
    rw [← crcIt_xor, Nat.xor_assoc]
theorem num_lt (l : List UInt8) : num l < 256 ^ l.length := by
  induction l with
  | nil => simp [num]
  | cons b l ih =>
    have e : 256 ^ (l.length + 1) = 2 ^ (8 * (l.length + 1)) := by
      rw [show (256 : Nat) = 2 ^ 8 from rfl, ← Nat.pow_mul]
    have e' : 256 ^ (l.length + 1) = 256 * 256 ^ l.length := by rw [Nat.pow_succ, Nat.mul_comm]
    simp only [num, List.length_cons]
    rw [e]
    refine Nat.xor_lt_two_pow ?_ ?_
    · rw [← e, e']
      have := b.toNat_lt
      have : 0 < 256 ^ l.length := Nat.pow_pos (by decide)
      omega
    · rw [← e, e']
      omega
theorem num_zero {l : List UInt8} (h : num l = 0) : ∀ b ∈ l, b = 0 := by
  induction l with
  | nil => simp
  | cons b l ih =>
    simp only [num] at h
    have h1 := xor_eq_zero' h
    have := b.toNat_lt
    have hb : b.toNat = 0 := by omega
    have hl : num l = 0 := by omega
    intro x hx
    rcases List.mem_cons.1 hx with rfl | hx
    · exact UInt8.toNat.inj hb
    · exact ih hl x hx

theorem crcState_zeros (c n : Nat) : crcState c (List.replicate n 0) = crcIt (8 * n) c := by
  induction n generalizing c with
  | zero => rfl
  | succ n ih =>
    have h1 : crcState c (List.replicate (n + 1) 0) = crcState (crcStep c 0) (List.replicate n 0) := rfl
    rw [h1, ih, Nat.mul_add, crcIt_add]
    simp [crcStep]
theorem crcIt_0 (k : Nat) : crcIt k 0 = 0 := by
  induction k with
  | zero => rfl
  | succ k ih => simp [crcIt, ih, crcT]

/-- The turning: mask bytes from place k on. -/
def err (n k m : Nat) : List UInt8 := List.replicate k 0 ++ le m 4 ++ List.replicate (n - k) 0
theorem err_length (n k m : Nat) (h : k ≤ n) : (err n k m).length = n + 4 := by simp [err, le_length]; omega

theorem le_four (m : Nat) : le m 4 = [UInt8.ofNat m, UInt8.ofNat (m / 256), UInt8.ofNat (m / 65536), UInt8.ofNat (m / 16777216)] := by
  simp [le]

theorem err_zero {n k m : Nat} (hk : k ≤ n) (hm : m < 4294967296) (h : crcState 0 (err n k m) = 0) : m = 0 := by
  unfold err at h
  rw [crcState_append, crcState_append, crcState_zeros, crcState_zeros, crcIt_0, crcState_num] at h
  have hl := num_lt (le m 4)
  rw [le_length] at hl
  simp only [Nat.zero_xor] at h
  have h1 := crcIt_zero _ (crcIt_lt _ (by simpa using hl)) h
  have h2 := crcIt_zero _ (by simpa using hl) h1
  have h3 := num_zero h2
  rw [le_four] at h3
  have a0 := congrArg UInt8.toNat (h3 (UInt8.ofNat m) (by simp))
  have a1 := congrArg UInt8.toNat (h3 (UInt8.ofNat (m / 256)) (by simp))
  have a2 := congrArg UInt8.toNat (h3 (UInt8.ofNat (m / 65536)) (by simp))
  have a3 := congrArg UInt8.toNat (h3 (UInt8.ofNat (m / 16777216)) (by simp))
  simp only [UInt8.toNat_ofNat', UInt8.toNat_ofNat] at a0 a1 a2 a3
  omega

theorem ofNat_xor (a b : Nat) : UInt8.ofNat (a ^^^ b) = UInt8.ofNat a ^^^ UInt8.ofNat b := by
  apply UInt8.toNat.inj
  rw [UInt8.toNat_xor, UInt8.toNat_ofNat', UInt8.toNat_ofNat', UInt8.toNat_ofNat']
  exact Nat.xor_mod_two_pow (n := 8)
theorem le_xor (a b : Nat) : le (a ^^^ b) 4 = xorL (le a 4) (le b 4) := by
  have d : ∀ j, (a ^^^ b) / 2 ^ j = a / 2 ^ j ^^^ b / 2 ^ j := by
    intro j
    have := @Nat.shiftRight_xor_distrib j a b
    simpa [Nat.shiftRight_eq_div_pow] using this
  have d8 := d 8
  have d16 := d 16
  have d24 := d 24
  simp only [Nat.reducePow] at d8 d16 d24
  rw [le_four, le_four, le_four, d8, d16, d24]
  simp [xorL, ofNat_xor]
theorem le_inj {a b : Nat} (ha : a < 4294967296) (hb : b < 4294967296) (h : le a 4 = le b 4) : a = b := by
  rw [le_four, le_four] at h
  simp only [List.cons.injEq, and_true] at h
  obtain ⟨h0, h1, h2, h3⟩ := h
  have a0 := congrArg UInt8.toNat h0
  have a1 := congrArg UInt8.toNat h1
  have a2 := congrArg UInt8.toNat h2
  have a3 := congrArg UInt8.toNat h3
  simp only [UInt8.toNat_ofNat'] at a0 a1 a2 a3
  omega

theorem xorL_append (a b c d : List UInt8) (h : a.length = c.length) : xorL (a ++ b) (c ++ d) = xorL a c ++ xorL b d := by
  simp [xorL, List.zipWith_append h]

/-- Where the sum that stands there fits what stands ahead of it, the residue of the turning is nought. -/
theorem num_four (S : Nat) (l : List UInt8) (hl : l.length = 4) (hS : S < 4294967296) (h : le S 4 = l) : crcState S l = 0 := by
  rw [crcState_num, ← h]
  have hn : num (le S 4) = S := by
    rw [le_four]
    simp only [num, UInt8.toNat_ofNat', Nat.mul_zero, Nat.xor_zero]
    have x : ∀ b y : Nat, b < 256 → b ^^^ (256 * y) = b + 256 * y := by
      intro b y hb
      apply Nat.eq_of_testBit_eq
      intro i
      rw [Nat.testBit_xor]
      have e : b + 256 * y = 2 ^ 8 * y + b := by omega
      rw [e, Nat.testBit_two_pow_mul_add y hb, show (256 : Nat) = 2 ^ 8 from rfl, Nat.testBit_two_pow_mul]
      by_cases hi : i < 8
      · simp [hi, show ¬ 8 ≤ i by omega]
      · have : b.testBit i = false := Nat.testBit_lt_two_pow (Nat.lt_of_lt_of_le hb (show (256 : Nat) ≤ 2 ^ i from by
          have := Nat.pow_le_pow_right (show 0 < 2 by decide) (show 8 ≤ i by omega)
          simpa using this))
        simp [hi, this, show 8 ≤ i by omega]
    rw [x _ _ (by omega), x _ _ (by omega), x _ _ (by omega)]
    omega
  rw [hn, Nat.xor_self, crcIt_0]

/-- WHAT WAS TURNED WITHIN FOUR BYTES OF A SEALED TEXT ISN'T OPENED. -/
theorem turned_closed (s : List UInt8) (k m : Nat) (hk : k ≤ s.length) (hm : m < 4294967296) (h0 : m ≠ 0) :
    ¬ (let t := xorL (s ++ le (crcSum s) 4) (err s.length k m); t.take s.length ++ le (crcSum (t.take s.length)) 4 = t) := by
  intro h
  simp only at h
  apply h0
  have hel := err_length s.length k m hk
  obtain ⟨e1, e2, he, hl1⟩ : ∃ e1 e2, err s.length k m = e1 ++ e2 ∧ e1.length = s.length := ⟨(err s.length k m).take s.length, (err s.length k m).drop s.length, (List.take_append_drop _ _).symm, by rw [List.length_take, hel]; omega⟩
  have hl2 : e2.length = 4 := by
    have := congrArg List.length he
    rw [hel, List.length_append] at this
    omega
  rw [he, xorL_append _ _ _ _ hl1.symm] at h
  have ht : (xorL s e1 ++ xorL (le (crcSum s) 4) e2).take s.length = xorL s e1 := by
    rw [List.take_append_of_le_length (by rw [xorL_length _ _ hl1.symm]; omega), List.take_of_length_le (by rw [xorL_length _ _ hl1.symm]; omega)]
  rw [ht] at h
  have h2 := List.append_cancel_left h
  have h3 : crcSum (xorL s e1) = crcSum s ^^^ crcState 0 e1 := by
    have := crcState_xor 4294967295 0 s e1 hl1.symm
    rw [Nat.xor_zero] at this
    unfold crcSum
    rw [this, Nat.xor_assoc, Nat.xor_comm (crcState 0 e1), ← Nat.xor_assoc]
  rw [h3, le_xor] at h2
  have h4 : le (crcState 0 e1) 4 = e2 := by
    apply List.ext_getElem?
    intro i
    have := congrArg (fun l => l[i]?) h2
    simp only [xorL, List.getElem?_zipWith] at this
    by_cases hi : i < 4
    · have a1 : i < (le (crcSum s) 4).length := by rw [le_length]; exact hi
      have a2 : i < (le (crcState 0 e1) 4).length := by rw [le_length]; exact hi
      have a3 : i < e2.length := by omega
      rw [List.getElem?_eq_getElem a1, List.getElem?_eq_getElem a2, List.getElem?_eq_getElem a3] at this
      rw [List.getElem?_eq_getElem a2, List.getElem?_eq_getElem a3]
      simp only [Option.some.injEq] at this ⊢
      have x := congrArg ((le (crcSum s) 4)[i] ^^^ ·) this
      simpa [← UInt8.xor_assoc] using x
    · rw [List.getElem?_eq_none (by rw [le_length]; omega), List.getElem?_eq_none (by omega)]
  apply err_zero hk hm
  rw [he, crcState_append]
  exact num_four _ _ hl2 (crcState_lt e1 (by decide)) h4
end Go.Proofs.YtencbdcfcpohaaaDoor

/- The walks of castle's reference: Sum, Seal, Open; tierceref01's Bytes. -/
namespace Go.Proofs.YtencbdcfcpohaaaDoor
set_option linter.unusedVariables false
set_option linter.unusedSimpArgs false
open Go.RowKit

theorem index_byte (s : ByteArray) (k : Nat) (h : k < s.size) : s[k] = s.data.toList.getD k 0 := by
  have hd : k < s.data.size := h
  have e : s[k] = s.data[k] := rfl
  rw [e]
  simp [List.getD, Array.getElem?_eq_getElem hd]

theorem bit_u32 (Y B j : Nat) (hY : Y < 4294967296) (hB : B < 256) : bits .xor .u32 (bits .and .u32 (Y : Int) 1) (bits .and .u32 ((B : Int) / 2 ^ j % 4294967296) 1) = (((Y ^^^ (B / 2 ^ j)) % 2 : Nat) : Int) := by
  have h1 : ((B : Int) / 2 ^ j % 4294967296) = ((B / 2 ^ j : Nat) : Int) := by
    have : B / 2 ^ j ≤ B := Nat.div_le_self _ _
    have e : ((B : Int) / 2 ^ j) = ((B / 2 ^ j : Nat) : Int) := by simp
    rw [e]
    generalize B / 2 ^ j = q at this ⊢
    omega
  have h2 : B / 2 ^ j < 4294967296 := by have : B / 2 ^ j ≤ B := Nat.div_le_self _ _; omega
  rw [h1, and1_u32 _ hY, and1_u32 _ h2, xor_u32 _ _ (by omega) (by omega), xor_par]
  rcases Nat.mod_two_eq_zero_or_one Y with hy | hy <;> rcases Nat.mod_two_eq_zero_or_one (B / 2 ^ j) with hb | hb <;> rw [hy, hb] <;> decide

set_option maxRecDepth 10000 in
set_option maxHeartbeats 1000000 in
theorem rsum_any (s : ByteArray) (w : World) (hs : s.size ≤ 140737488355328) :
    Calls Tryd.prog 65 #[.string s] w fun e w' => e = .returned (.int .u32 (crcSum s.data.toList)) ∧ w = w' := by
  go_enter Tryd.func65, Tryd.ntmps65
  go_wp2_with fail
  go_loop [3, 4] (fun x i => ∃ (k X : Nat), k ≤ s.size ∧ i = .int .i64 k ∧ x = .int .u32 X ∧ X < 4294967296 ∧ Hid (X = crcState 4294967295 (s.data.toList.take k))) (fun _ i => s.size - (intOf i).toNat)
  case atStart => exact ⟨0, 4294967295, by omega, rfl, rfl, by omega, by simp [Hid, crcState]⟩
  case round =>
    obtain ⟨k, X, hk, rfl, rfl, hX, HX⟩ := hrel
    by_cases hlt : k < s.size
    · have HS := Lib.hid (crc_snoc s k hlt)
      have hb := (s.data.toList.getD k 0).toNat_lt
      go_wp2_with fail
      go_loop [3, 5] (fun x i => ∃ (j Y : Nat), j ≤ 8 ∧ i = .int .i64 j ∧ x = .int .u32 Y ∧ Y < 4294967296 ∧ Hid (Y ^^^ ((s.data.toList.getD k 0).toNat / 2 ^ j) = crcIt j (X ^^^ (s.data.toList.getD k 0).toNat))) (fun _ i => 8 - (intOf i).toNat)
      case atStart => exact ⟨0, X, by omega, rfl, rfl, hX, by simp [Hid, crcIt]⟩
      case round =>
        obtain ⟨j, Y, hj, rfl, rfl, hY, HY⟩ := hrel
        by_cases hlt2 : j < 8
        · have hbt := (s[k]'hlt).toNat_lt
          have eb := bit_u32 Y (s[k]'hlt).toNat j hY hbt
          have hkb : (s[k]'hlt).toNat = (s.data.toList.getD k 0).toNat := by rw [index_byte s k hlt]
          have hdj : (s.data.toList.getD k 0).toNat / 2 ^ j / 2 = (s.data.toList.getD k 0).toNat / 2 ^ (j + 1) := by rw [Nat.div_div_eq_div_mul, Nat.pow_succ]
          have HK := Lib.hid hkb
          have HD := Lib.hid hdj
          clear hkb hdj
          by_cases hp : (Y ^^^ ((s[k]'hlt).toNat / 2 ^ j)) % 2 = 1
          · rw [hp] at eb
            obtain ⟨Z, hZ⟩ : ∃ Z, Z = (Y / 2) ^^^ 2197175160 := ⟨_, rfl⟩
            have hZ1 : Z < 4294967296 := by rw [hZ]; exact Nat.xor_lt_two_pow (n := 32) (by omega) (by decide)
            have e2 : bits .xor .u32 ((Y : Int) / 2) 2197175160 = (Z : Int) := by
              rw [hZ, ← xor_u32 (Y / 2) 2197175160 (by omega) (by decide), show ((Y / 2 : Nat) : Int) = (Y : Int) / 2 by omega]
              rfl
            have HZ := Lib.hid hZ
            have HP := Lib.hid hp
            clear hZ hp
            go_wp2_with fail
            go_round
            case rel =>
              refine ⟨j + 1, Z, by omega, by go_num, rfl, hZ1, ?_⟩
              have hp := HP.out
              rw [HK.out] at hp
              show Z ^^^ ((s.data.toList.getD k 0).toNat / 2 ^ (j + 1)) = crcT (crcIt j (X ^^^ (s.data.toList.getD k 0).toNat))
              rw [← HY.out, crcT, if_pos hp, HZ.out, xor_half, HD.out, Nat.xor_assoc, Nat.xor_assoc, Nat.xor_comm 2197175160]
            case measure => simp [intOf]; omega
          · have hp0 : (Y ^^^ ((s[k]'hlt).toNat / 2 ^ j)) % 2 = 0 := by omega
            rw [hp0] at eb
            have HP := Lib.hid hp
            clear hp hp0
            go_wp2_with fail
            go_round
            case rel =>
              refine ⟨j + 1, Y / 2, by omega, by go_num, by go_num, by omega, ?_⟩
              have hp := HP.out
              rw [HK.out] at hp
              show Y / 2 ^^^ ((s.data.toList.getD k 0).toNat / 2 ^ (j + 1)) = crcT (crcIt j (X ^^^ (s.data.toList.getD k 0).toNat))
              rw [← HY.out, crcT, if_neg hp, xor_half, HD.out]
            case measure => simp [intOf]; omega
        · obtain rfl : j = 8 := by omega
          have hfin : Y = crcStep X (s.data.toList.getD k 0).toNat := by
            have h := HY.out
            rw [show (s.data.toList.getD k 0).toNat / 2 ^ 8 = 0 by omega, Nat.xor_zero] at h
            exact h
          have HF := Lib.hid hfin
          clear hfin
          go_wp2_with fail
          go_round
          case rel => exact ⟨k + 1, Y, by omega, by go_num, rfl, hY, by show _ = _; rw [HS.out, ← HX.out, HF.out]⟩
          case measure => simp [intOf]; omega
    · obtain rfl : k = s.size := by omega
      have e1 : bits .xor .u32 (X : Int) 4294967295 = ((crcSum s.data.toList : Nat) : Int) := by
        have h1 := xor_u32 X 4294967295 hX (by decide)
        have h2 : X ^^^ 4294967295 = crcSum s.data.toList := by
          rw [HX.out, List.take_of_length_le (by simp)]; rfl
        rw [h2] at h1
        exact h1
      generalize hZ : crcSum s.data.toList = Z at e1 ⊢
      have HZ := Lib.hid hZ
      clear hZ
      go_wp2_with fail
      go_ret
      exact ⟨ret_int (by rw [HZ.out]), rfl⟩

theorem rsize_any (n : Int) (w : World) : Calls Tryd.prog 21 #[.int .i64 n] w fun e w' => e = .returned (.int .i64 (clampSize n)) ∧ w = w' := by
  go_enter Tryd.func21, Tryd.ntmps21
  by_cases h0 : n < 1
  · go_wp2
    all_goals
      go_ret
      exact ⟨ret_int (by unfold clampSize; omega), rfl⟩
  · by_cases h8 : 8 < n
    · go_wp2
      all_goals
        go_ret
        exact ⟨ret_int (by unfold clampSize; omega), rfl⟩
    · go_wp2
      all_goals
        go_ret
        exact ⟨ret_int (by unfold clampSize; omega), rfl⟩

theorem byte_shift (n j : Nat) : (n : Int) / 2 ^ (8 * j) % 256 = ((UInt8.ofNat (n / 256 ^ j)).toNat : Int) := by
  have e : (2 : Nat) ^ (8 * j) = 256 ^ j := by rw [Nat.pow_mul]
  have e2 : ((n : Int) / 2 ^ (8 * j)) = ((n / 256 ^ j : Nat) : Int) := by rw [← e]; simp
  rw [e2]
  simp

set_option maxRecDepth 10000 in
set_option maxHeartbeats 1000000 in
theorem rbytes_any (n : Nat) (size : Int) (w : World) (hn : n < 18446744073709551616) :
    Calls Tryd.prog 12 #[.int .u64 n, .int .i64 size] w fun e w' => e = .returned (.string ⟨(le n (clampSize size)).toArray⟩) ∧ Below w.heap.size w w' := by
  have hk8 : clampSize size ≤ 8 := by unfold clampSize; omega
  go_enter Tryd.func12, Tryd.ntmps12
  go_wp2_with fail
  obtain ⟨i0, hi, hz0, hz1, hz2⟩ := info_parts infoByte
  go_loopg [5, 6] (clampSize size) (fun m v i wr => ∃ (j : Nat), j + m = clampSize size ∧ i = .int .i64 j ∧ wr.ownsRowF w.heap.size 5 1 v j (Lib.byteCells (le n j)) ∧ Below w.heap.size w wr)
  case atStart => exact ⟨0, by omega, rfl, ⟨rfl, .inr ⟨w.heap.size, 0, #[], (0, 0), rfl, Nat.le_refl _, heap_alloc_new w _, by simp, by simp, by unfold maxLen; simp, rfl, rfl⟩⟩, by (repeat (first | with_reducible exact Below.refl _ _ | with_reducible assumption | with_reducible apply Below.drew | with_reducible apply below_drewN | (with_reducible refine below_set ?_ ?_; focus ((try simp); (try omega); done)) | (with_reducible refine below_new ?_ ?_; focus ((try simp); (try omega); done))))⟩
  case round =>
    obtain ⟨j, hj, rfl, hown, hb⟩ := hrel
    have Hj := Lib.hid hj
    by_cases hlt : j < clampSize size
    · have hj8 : j < 8 := by omega
      have e1 := byte_shift n j
      have hd : le n (j + 1) = le n j ++ [UInt8.ofNat (n / 256 ^ j)] := rfl
      have Hd := Lib.hid hd
      generalize UInt8.ofNat (n / 256 ^ j) = c at e1 Hd
      have hcell : Lib.byteCells (le n j ++ [c]) = Lib.byteCells (le n j) ++ [.int .u8 (c.toNat : Int)] := by simp [Lib.byteCells]
      have Hcell := Lib.hid hcell
      generalize hk : clampSize size = k at hlt hk8 hj
      clear hj hd hcell
      go_wp2_with (first
        | (go_at_call 21; refine (rsize_any _ _).mono ?_; rintro e w5 ⟨rfl, rfl⟩)
        | (at_builtin; refine wp_buf_cells _ rfl _ _ 26 rfl w.heap.size 5 i0 (.int .u8 0) 1 1 Tryd.underlying26 hi hz0 hz1 hz2 rfl (by decide) _ _ _ rfl (hown.alloc _) ⟨wr.heap.size, 0, none⟩ 1 1 [.int .u8 c.toNat] rfl rfl ?c1 ?c2 ?c3 ?c4 ?c5 ?_))
      case c1 =>
        intro j u hj
        match j, hj with
        | 0, hj => simp at hj; subst hj; simp [Addr.add]
      case c2 => intro u hu; simp at hu; subst hu; rfl
      case c3 => unfold maxLen; omega
      case c4 => omega
      case c5 => have := hb.size; simp; omega
      intro v' w2 hown' hgrow _
      rw [← Hcell.out, ← Hd.out] at hown'
      have hb2 : Below w.heap.size w w2 := (hb.alloc hb.size _).grown hgrow (by have := hb.size; simp; omega) (fun k hk => (hown.lt k hk).1)
      clear hown hb e1 Hd Hcell hgrow
      go_wp2_with fail
      go_roundg (gk - 1)
      case measure => have := Hj.out; omega
      case rel => exact ⟨j + 1, by have := Hj.out; omega, by go_num, hown', hb2⟩
    · have hj' : j = clampSize size := by omega
      have hpos : 0 < j := by rw [hj']; unfold clampSize; omega
      have HJ := Lib.hid hj'
      clear hj' hj
      have hex : ∃ g cap, u5 = .slice (some ⟨g, 0, none⟩) j cap := by
        rcases hown.2 with ⟨_, h0⟩ | ⟨g, cap, _, _, hv, _⟩
        · omega
        · exact ⟨g, cap, hv⟩
      obtain ⟨g, cap, rfl⟩ := hex
      have hcv := conv_string wr g 0 cap (le n j) j (le_length n j) (fun i hi => by
        have := hown.cells (g := g) rfl i (.int .u8 ((le n j).getD i 0).toNat) (by
          have hil : i < (le n j).length := by rw [le_length]; exact hi
          simp [Lib.byteCells, List.getD, List.getElem?_eq_getElem hil])
        rw [Nat.zero_add]
        unfold Addr.add at this
        split at this
        · rename_i h0; subst h0; exact this
        · simpa using this)
      clear hown
      have hnlt : ¬ j < clampSize size := by rw [← HJ.out]; omega
      generalize hk : clampSize size = k at hnlt hk8
      clear hk
      go_wp2_with (go_at_call 21; refine (rsize_any _ _).mono ?_; rintro e w5 ⟨rfl, rfl⟩)
      go_ret
      exact ⟨by rw [HJ.out]; rfl, hb⟩

theorem mk_append (a b : List UInt8) : (⟨a.toArray⟩ : ByteArray) ++ ⟨b.toArray⟩ = ⟨(a ++ b).toArray⟩ := by
  apply str_ext
  simp

set_option maxHeartbeats 1000000 in
theorem rseal_any (s q : ByteArray) (w : World) (hs : s.size ≤ 1099511627776) (hq : (⟨(sealL s.data.toList).toArray⟩ : ByteArray) = q) :
    Calls Tryd.prog 46 #[.string s] w fun e w' => e = .returned (.string q) ∧ Below w.heap.size w w' := by
  have hlt := crcSum_lt s.data.toList
  obtain ⟨T, hT⟩ : ∃ T : ByteArray, (⟨(le (crcSum s.data.toList) (clampSize 4)).toArray⟩ : ByteArray) = T := ⟨_, rfl⟩
  have hTs : T.size ≤ 8 := by
    rw [← hT]
    show (le _ (clampSize 4)).toArray.size ≤ 8
    rw [List.size_toArray, le_length]
    decide
  have hcat : s ++ T = q := by
    rw [← hq, ← hT]
    apply str_ext
    rw [Joins.data_append]
    rfl
  generalize hZ : crcSum s.data.toList = Z at hlt hT
  have HZ := Lib.hid hZ
  clear hZ hq
  have H2 : ∀ W : World, Calls Tryd.prog 12 #[.int .u64 Z, .int .i64 4] W fun e w' => e = .returned (.string T) ∧ Below W.heap.size W w' := by
    intro W
    rw [← hT]
    exact rbytes_any Z 4 W (by omega)
  have H2' := Lib.hid H2
  clear H2 hT
  have H1 : ∀ W : World, Calls Tryd.prog 65 #[.string s] W fun e w' => e = .returned (.int .u32 Z) ∧ W = w' := by
    intro W
    rw [← HZ.out]
    exact rsum_any s W (by omega)
  have H1' := Lib.hid H1
  clear H1
  go_enter Tryd.func46, Tryd.ntmps46
  go_wp2_with fail
  refine (H1'.out _).mono ?_
  rintro e w1 ⟨rfl, rfl⟩
  go_wp2_with fail
  refine (H2'.out _).mono ?_
  rintro e w1 ⟨rfl, hb⟩
  go_wp2_with fail
  go_ret
  exact ⟨rfl, hb⟩

theorem below_then {w a b : World} (h : Below w.heap.size w a) (k : Below a.heap.size a b) : Below w.heap.size w b := h.trans (k.mono h.size)
end Go.Proofs.YtencbdcfcpohaaaDoor

/- Rows of bytes in a block of one's own, and the turning as a walk makes it. -/
namespace Go.Proofs.YtencbdcfcpohaaaDoor
set_option linter.unusedVariables false
set_option linter.unusedSimpArgs false
open Go.RowKit

theorem modU (n m : Int) (h0 : 1 ≤ m) (h1 : m ≤ 1000000) : ∃ k : Nat, wrap64 ((IntKind.u64.wrap n).tmod m) = (k : Int) ∧ (k : Int) < m := by
  have hu : 0 ≤ IntKind.u64.wrap n := by simp [IntKind.wrap, IntKind.bits, IntKind.signed]; omega
  rw [Int.tmod_eq_emod_of_nonneg hu]
  have a := Int.emod_nonneg (IntKind.u64.wrap n) (show m ≠ 0 by omega)
  have b := Int.emod_lt_of_pos (IntKind.u64.wrap n) (show 0 < m by omega)
  generalize IntKind.u64.wrap n % m = x at a b
  refine ⟨x.toNat, ?_, by omega⟩
  rw [IntWalk.wrap64_in _ (by omega)]
  omega

/-- The cells of a row of bytes with room up to c. -/
def rowOf (L : List UInt8) (c : Nat) : Array Value := (Lib.byteCells L ++ List.replicate (c - L.length) (Value.int .u8 0)).toArray
theorem rowOf_get (L : List UInt8) (c i : Nat) (h : i < L.length) : (rowOf L c)[i]? = some (.int .u8 ((L.getD i 0).toNat : Int)) := by
  simp only [rowOf, List.getElem?_toArray]
  rw [List.getElem?_append_left (by simpa [Lib.byteCells] using h)]
  simp [Lib.byteCells, List.getD, h]
theorem rowOf_set (L : List UInt8) (c i : Nat) (x : UInt8) (h : i < L.length) : (rowOf L c).setIfInBounds i (.int .u8 (x.toNat : Int)) = rowOf (L.set i x) c := by
  apply Array.ext'
  simp only [rowOf, Array.toList_setIfInBounds, List.length_set]
  rw [List.set_append_left _ _ (by simpa [Lib.byteCells] using h)]
  simp [Lib.byteCells, List.map_set]
theorem conv_row (s : ByteArray) (w : World) (hs : s.size ≤ maxLen) : ∃ c : Nat, s.size ≤ c ∧ c ≤ maxLen ∧
    (convert 9 26 (.string s)).run Tryd.prog w = .ok (.slice (some ⟨w.heap.size, 0, none⟩) s.size c) (w.drew.alloc (.cells (rowOf s.data.toList c) 5 (c, c + 1))) := by
  obtain ⟨C, c, fz, hcv, hC, hc1, hc2, hc3, hfz⟩ := conv_bytes s w hs
  subst hfz
  refine ⟨c, hc1, hc2, ?_⟩
  have : C = rowOf s.data.toList c := by
    apply Array.ext_getElem?
    intro i
    rw [hC i]
    have hl : s.data.toList.length = s.size := by simp
    by_cases h1 : i < s.size
    · rw [if_pos h1, rowOf_get _ _ _ (by omega)]
    · rw [if_neg h1]
      simp only [rowOf, List.getElem?_toArray]
      rw [List.getElem?_append_right (by simp [Lib.byteCells]; omega), List.getElem?_replicate]
      simp only [Lib.byteCells, List.length_map, hl]
      by_cases h2 : i < c
      · rw [if_pos h2, if_pos (by omega)]
      · rw [if_neg h2, if_neg (by omega)]
  rw [hcv, this]

/-- Block g holds the bytes L, with room up to c behind them; none of them is frozen. -/
def Bytes (w : World) (g : Nat) (L : List UInt8) (c : Nat) : Prop := ∃ fz : Nat × Nat, w.heap[g]? = some (.cells (rowOf L c) 5 fz) ∧ (fz = (0, 0) ∨ c ≤ fz.1)
section
variable {w w' : World} {g c : Nat} {L : List UInt8}
theorem Bytes.lt (h : Bytes w g L c) : g < w.heap.size := by
  obtain ⟨fz, h, _⟩ := h
  rcases Nat.lt_or_ge g w.heap.size with hlt | hge
  · exact hlt
  · rw [Array.getElem?_eq_none hge] at h; cases h
theorem Bytes.cell (h : Bytes w g L c) {i : Nat} (hi : i < L.length) : w.cell? ⟨g, i, none⟩ = some (.int .u8 ((L.getD i 0).toNat : Int)) := by
  obtain ⟨fz, h, _⟩ := h
  exact (cell_of_row w g i _ _ _ h).trans (rowOf_get L c i hi)
theorem Bytes.frozen (h : Bytes w g L c) {i : Nat} (hi : i < c) : w.frozen? ⟨g, i, none⟩ = false := by
  obtain ⟨⟨a, b⟩, h, hf⟩ := h
  rcases hf with hf | hf
  · injection hf with ha hb
    subst ha hb
    simp [World.frozen?, h]
  · simp only at hf
    simp [World.frozen?, h]
    omega
theorem Bytes.set_ (h : Bytes w g L c) {i : Nat} (hi : i < L.length) (x : UInt8) : Bytes (w.setCell ⟨g, i, none⟩ (.int .u8 (x.toNat : Int))) g (L.set i x) c := by
  obtain ⟨fz, h, hf⟩ := h
  refine ⟨fz, ?_, hf⟩
  rw [← rowOf_set L c i x hi]
  simp [World.setCell, Array.getElem?_modify, h]
theorem Bytes.below (h : Bytes w g L c) (hb : Below w.heap.size w w') : Bytes w' g L c := by
  have hlt := h.lt
  obtain ⟨fz, h, hf⟩ := h
  exact ⟨fz, (hb.block g hlt).trans h, hf⟩
theorem Bytes.drew (h : Bytes w g L c) : Bytes w.drew g L c := h
theorem Bytes.drewN (h : Bytes w g L c) (n : Nat) : Bytes (w.drewN n) g L c := h
theorem Bytes.new_ : Bytes (w.alloc (.cells (rowOf L c) 5 (c, c + 1))) w.heap.size L c := ⟨_, heap_alloc_new w _, .inr (Nat.le_refl _)⟩
theorem Bytes.made : Bytes (w.alloc (.cells (rowOf L c) 5)) w.heap.size L c := ⟨_, heap_alloc_new w _, .inl rfl⟩
theorem Bytes.conv (h : Bytes w g L c) (cap n : Nat) (hn : L.length = n) : (convert 26 9 (.slice (some ⟨g, 0, none⟩) n cap)).run Tryd.prog w = .ok (.string ⟨L.toArray⟩) w :=
  conv_string w g 0 cap L n hn (fun i hi => by rw [Nat.zero_add]; exact h.cell (by omega))
end

/-- The turning, byte by byte. -/
def turnTo (t : List UInt8) (k m : Nat) : Nat → List UInt8
  | 0 => t
  | j + 1 => (turnTo t k m j).set (k + j) ((turnTo t k m j).getD (k + j) 0 ^^^ UInt8.ofNat (m / 256 ^ j))
theorem turnTo_length (t : List UInt8) (k m j : Nat) : (turnTo t k m j).length = t.length := by
  induction j with
  | zero => rfl
  | succ j ih => simp [turnTo, ih]
theorem turnTo_get (t : List UInt8) (k m j i : Nat) : (turnTo t k m j)[i]? = t[i]?.map fun x => if k ≤ i ∧ i < k + j then x ^^^ UInt8.ofNat (m / 256 ^ (i - k)) else x := by
  induction j with
  | zero =>
    have e : ∀ x : UInt8, (if k ≤ i ∧ i < k + 0 then x ^^^ UInt8.ofNat (m / 256 ^ (i - k)) else x) = x := fun x => if_neg (by omega)
    simp only [turnTo, e, Option.map_id']
  | succ j ih =>
    simp only [turnTo, List.getElem?_set, turnTo_length]
    by_cases hi : k + j = i
    · subst hi
      rw [if_pos rfl]
      by_cases hl : k + j < t.length
      · rw [if_pos hl]
        have hg : (turnTo t k m j).getD (k + j) 0 = t[k + j] := by
          simp only [List.getD, ih, List.getElem?_eq_getElem hl, Option.map_some, Option.getD_some]
          rw [if_neg (by omega)]
        rw [hg, List.getElem?_eq_getElem hl, Option.map_some, if_pos (by omega), show k + j - k = j by omega]
      · rw [if_neg hl, List.getElem?_eq_none (by omega)]
        rfl
    · rw [if_neg hi, ih]
      congr 1
      funext x
      by_cases h1 : k ≤ i ∧ i < k + j
      · rw [if_pos h1, if_pos (by omega)]
      · rw [if_neg h1, if_neg (by omega)]
theorem err_get (n k m i : Nat) (hk : k ≤ n) (hi : i < n + 4) : (err n k m)[i]? = some (if k ≤ i ∧ i < k + 4 then UInt8.ofNat (m / 256 ^ (i - k)) else 0) := by
  unfold err
  by_cases h1 : i < k
  · rw [List.getElem?_append_left (by simp [le_length]; omega), List.getElem?_append_left (by simp; omega), List.getElem?_replicate, if_pos h1, if_neg (by omega)]
  · by_cases h2 : i < k + 4
    · rw [List.getElem?_append_left (by simp [le_length]; omega), List.getElem?_append_right (by simp; omega), List.length_replicate, le_get m 4 _ (by omega), if_pos (by omega)]
    · rw [List.getElem?_append_right (by simp [le_length]; omega), List.getElem?_replicate, if_pos (by simp [le_length]; omega), if_neg (by omega)]
theorem turnTo_xor (t : List UInt8) (n k m : Nat) (ht : t.length = n + 4) (hk : k ≤ n) : turnTo t k m 4 = xorL t (err n k m) := by
  apply List.ext_getElem?
  intro i
  rw [turnTo_get]
  simp only [xorL, List.getElem?_zipWith]
  by_cases hi : i < n + 4
  · rw [List.getElem?_eq_getElem (by omega), err_get n k m i hk hi]
    simp only [Option.map_some]
    by_cases h1 : k ≤ i ∧ i < k + 4
    · simp [h1]
    · simp [h1]
  · rw [List.getElem?_eq_none (by omega), List.getElem?_eq_none (by rw [err_length n k m hk]; omega)]
    rfl
theorem turn_zero (t : List UInt8) (k j : Nat) : turnTo t k 0 j = t := by
  apply List.ext_getElem?
  intro i
  rw [turnTo_get]
  cases h : t[i]? with
  | none => rfl
  | some x => simp
end Go.Proofs.YtencbdcfcpohaaaDoor

/- The walk of octet.Reader.Get; tierceref01.Number. -/
namespace Go.Proofs.YtencbdcfcpohaaaDoor
set_option linter.unusedVariables false
set_option linter.unusedSimpArgs false
open Go.RowKit

/-- A number of bytes, the lowest first. -/
def numL : List UInt8 → Nat
  | [] => 0
  | b :: l => b.toNat + 256 * numL l
theorem numL_lt (l : List UInt8) : numL l < 256 ^ l.length := by
  induction l with
  | nil => simp [numL]
  | cons b l ih =>
    have := b.toNat_lt
    simp only [numL, List.length_cons, Nat.pow_succ]
    have : 256 ^ l.length * 256 = 256 * 256 ^ l.length := Nat.mul_comm _ _
    omega
theorem numL_snoc (l : List UInt8) (b : UInt8) : numL (l ++ [b]) = numL l + b.toNat * 256 ^ l.length := by
  induction l with
  | nil => simp [numL]
  | cons a l ih =>
    simp only [List.cons_append, numL, ih, List.length_cons, Nat.pow_succ, Nat.mul_add]
    have : 256 * (b.toNat * 256 ^ l.length) = b.toNat * (256 ^ l.length * 256) := by rw [Nat.mul_comm 256, Nat.mul_assoc]
    omega
theorem le_numL (l : List UInt8) : le (numL l) l.length = l := by
  apply List.ext_getElem?
  intro i
  by_cases hi : i < l.length
  · rw [le_get _ _ _ hi]
    induction l generalizing i with
    | nil => simp at hi
    | cons a l ih =>
      cases i with
      | zero =>
        simp only [numL, Nat.pow_zero, Nat.div_one, List.getElem?_cons_zero]
        congr 1
        apply UInt8.toNat.inj
        rw [UInt8.toNat_ofNat']
        have := a.toNat_lt
        omega
      | succ i =>
        simp only [List.length_cons] at hi
        rw [List.getElem?_cons_succ, ← ih i (by omega)]
        congr 2
        simp only [numL, Nat.pow_succ]
        rw [Nat.mul_comm (256 ^ i) 256, ← Nat.div_div_eq_div_mul]
        congr 1
        have := a.toNat_lt
        omega
  · rw [List.getElem?_eq_none (by rw [le_length]; omega), List.getElem?_eq_none (by omega)]
theorem numL_le (n k : Nat) (h : n < 256 ^ k) : numL (le n k) = n := by
  induction k generalizing n with
  | zero => simp at h; subst h; rfl
  | succ k ih =>
    have h1 : le n (k + 1) = le n k ++ [UInt8.ofNat (n / 256 ^ k)] := rfl
    have h2 : le n k = le (n % 256 ^ k) k := by
      apply List.ext_getElem?
      intro i
      by_cases hi : i < k
      · rw [le_get _ _ _ hi, le_get _ _ _ hi]
        congr 1
        apply UInt8.toNat.inj
        rw [UInt8.toNat_ofNat', UInt8.toNat_ofNat']
        have e : 256 ^ k = 256 ^ i * (256 * 256 ^ (k - i - 1)) := by
          rw [← Nat.mul_assoc, ← Nat.pow_succ, ← Nat.pow_add]
          congr 1
          omega
        have : n % 256 ^ k / 256 ^ i = n / 256 ^ i % (256 * 256 ^ (k - i - 1)) := by
          rw [e, Nat.mod_mul_right_div_self]
        rw [this]
        simp only [Nat.reducePow]
        rw [Nat.mod_mul_right_mod]
      · rw [List.getElem?_eq_none (by rw [le_length]; omega), List.getElem?_eq_none (by rw [le_length]; omega)]
    rw [h1, numL_snoc, h2, ih _ (Nat.mod_lt _ (Nat.pow_pos (by decide))), le_length, UInt8.toNat_ofNat']
    have h3 : n / 256 ^ k < 256 := by
      rw [Nat.div_lt_iff_lt_mul (Nat.pow_pos (by decide)), Nat.mul_comm, ← Nat.pow_succ]
      exact h
    simp only [Nat.reducePow]
    rw [Nat.mod_eq_of_lt h3, Nat.mul_comm]
    exact Nat.mod_add_div _ _
theorem numL_take (l : List UInt8) (k : Nat) (h : k < l.length) : numL (l.take (k + 1)) = numL (l.take k) + (l.getD k 0).toNat * 256 ^ k := by
  rw [List.take_succ_eq_append_getElem h, numL_snoc, List.length_take, Nat.min_eq_left (by omega)]
  simp [List.getD, List.getElem?_eq_getElem h]

/-- A place's byte put over the number of those below it. -/
theorem or_place (X b j : Nat) (hX : X < 256 ^ j) (hb : b < 256) (hj : j < 8) :
    bits .or .u64 (X : Int) (IntKind.u64.wrap (IntKind.u64.wrap (b : Int) * 2 ^ (8 * j))) = ((X + b * 256 ^ j : Nat) : Int) := by
  have hwb : IntKind.u64.wrap (b : Int) = b := by simp [IntKind.wrap, IntKind.bits, IntKind.signed]; omega
  rw [hwb]
  have e : (2 : Nat) ^ (8 * j) = 256 ^ j := by rw [Nat.pow_mul]
  have hp : 256 ^ (j + 1) ≤ 256 ^ 8 := Nat.pow_le_pow_right (by decide) (by omega)
  have hp0 : 0 < 256 ^ j := Nat.pow_pos (by decide)
  have hbj : b * 256 ^ j ≤ 255 * 256 ^ j := Nat.mul_le_mul_right _ (by omega)
  have hbound : 255 * 256 ^ j + 256 ^ j = 256 ^ (j + 1) := by rw [Nat.pow_succ]; omega
  simp only [Nat.reducePow] at hp
  have hw : IntKind.u64.wrap ((b : Int) * 2 ^ (8 * j)) = ((b * 256 ^ j : Nat) : Int) := by
    have e2 : ((b : Int) * 2 ^ (8 * j)) = ((b * 256 ^ j : Nat) : Int) := by rw [← e]; simp
    rw [e2]
    generalize b * 256 ^ j = q at hbj
    simp [IntKind.wrap, IntKind.bits, IntKind.signed]
    omega
  rw [hw, u64_or_nat X (b * 256 ^ j) (by omega) (by omega)]
  congr 1
  rw [← e, Nat.or_comm, Nat.mul_comm, ← Nat.two_pow_add_eq_or_of_lt (by rw [e]; exact hX), Nat.add_comm]

/-- What a reader has left, and whether there were too few bytes, after a number of k bytes; the number. -/
def getN (st : List UInt8 × Bool) (k : Nat) : Nat × (List UInt8 × Bool) :=
  if k ≤ st.1.length then (numL (st.1.take k), (st.1.drop k, st.2)) else (0, ([], true))
theorem getN_lt (st : List UInt8 × Bool) (k : Nat) : (getN st k).1 < 256 ^ k := by
  unfold getN
  split
  · rename_i h
    have := numL_lt (st.1.take k)
    rwa [List.length_take, Nat.min_eq_left h] at this
  · exact Nat.pow_pos (by decide)
theorem getN_length (st : List UInt8 × Bool) (k : Nat) : (getN st k).2.1.length ≤ st.1.length := by
  unfold getN
  split <;> simp

set_option maxHeartbeats 1000000 in
theorem take_any (g : Nat) (st : List UInt8 × Bool) (k : Nat) (w : World) (hk : k ≤ 8) (h : Blk w g 86 (rdr ⟨st.1.toArray⟩ st.2)) (hs : st.1.length ≤ 1000000) :
    ∃ (T : List UInt8) , T.length ≤ 8 ∧ numL T = (getN st k).1 ∧ Calls Tryd.prog 22 #[.pointer (some ⟨g, 0, none⟩), .int .i64 k] w fun e w' => e = .returned (.string ⟨T.toArray⟩) ∧ Upd w g 86 (rdr ⟨(getN st k).2.1.toArray⟩ (getN st k).2.2) w' := by
  have hsz : (⟨st.1.toArray⟩ : ByteArray).size = st.1.length := by show st.1.toArray.size = _; simp
  unfold getN
  by_cases hle : k ≤ st.1.length
  · rw [if_pos hle]
    refine ⟨st.1.take k, by simp; omega, rfl, ?_⟩
    have := take_yes g ⟨st.1.toArray⟩ st.2 k w h (by omega) (by omega)
    rw [cut_eq _ k (by omega)] at this
    have e : (⟨st.1.toArray⟩ : ByteArray).extract k (⟨st.1.toArray⟩ : ByteArray).size = ⟨(st.1.drop k).toArray⟩ := by
      apply str_ext
      rw [Lib.extract_data, hsz]
      exact List.take_of_length_le (by simp)
    rw [e] at this
    exact this
  · rw [if_neg hle]
    refine ⟨[], by simp, rfl, ?_⟩
    exact take_short g ⟨st.1.toArray⟩ st.2 k w h (by omega) (by omega)

theorem getN_clamp (n : Nat) (h1 : 1 ≤ n) (h8 : n ≤ 8) : clampSize n = n := by unfold clampSize; omega

set_option maxRecDepth 10000 in
set_option maxHeartbeats 1000000 in
theorem get_any (g : Nat) (st : List UInt8 × Bool) (k : Nat) (w : World) (h1 : 1 ≤ k) (h8 : k ≤ 8) (h : Blk w g 86 (rdr ⟨st.1.toArray⟩ st.2)) (hs : st.1.length ≤ 1000000) :
    Calls Tryd.prog 18 #[.pointer (some ⟨g, 0, none⟩), .int .i64 k] w fun e w' => e = .returned (.int .u64 (getN st k).1) ∧ Upd w g 86 (rdr ⟨(getN st k).2.1.toArray⟩ (getN st k).2.2) w' := by
  obtain ⟨T, hT8, hTn, hT⟩ := take_any g st k w h8 h hs
  generalize (getN st k).2 = st2 at hT ⊢
  rw [← hTn]
  have hTT := Lib.hid hT
  clear hT hTn h
  go_enter Tryd.func18, Tryd.ntmps18
  go_wp2_with fail
  refine (width_any _ _).mono ?_
  rintro e w1 ⟨rfl, rfl⟩
  rw [getN_clamp k h1 h8]
  go_wp2_with fail
  refine hTT.out.mono ?_
  rintro e w2 ⟨rfl, hU⟩
  have hsz : (⟨T.toArray⟩ : ByteArray).size = T.length := by show T.toArray.size = _; simp
  obtain ⟨c, hc1, hc2, hcv⟩ := conv_row ⟨T.toArray⟩ w2 (by unfold maxLen; omega)
  rw [hsz] at hc1 hcv
  have hB : Bytes (w2.alloc (.cells (rowOf T c) 5 (c, c + 1))) w2.heap.size T c := Bytes.new_
  have hCell := Lib.hid (fun i hi => hB.cell (i := i) hi)
  have hU2 : Upd w g 86 (rdr ⟨st2.1.toArray⟩ st2.2) (w2.drew.alloc (.cells (rowOf T c) 5 (c, c + 1))) := ⟨(hU.blk.drew).alloc _, only_alloc (only_drew hU.grown) _⟩
  have HU := Lib.hid hU2
  clear hB hU hU2 hTT
  go_wp2_with fail
  go_loop [5, 6, 7, 14] (fun x _ _ i => ∃ (j X : Nat), j ≤ T.length ∧ i = .int .i64 j ∧ x = .int .u64 X ∧ Hid (X = numL (T.take j))) (fun _ _ _ i => T.length - (intOf i).toNat)
  case atStart => exact ⟨0, 0, by omega, rfl, rfl, by simp [Hid, numL]⟩
  case round =>
    obtain ⟨j, X, hj, rfl, rfl, HX⟩ := hrel
    clear hcv
    by_cases hlt : j < T.length
    · have hcell := hCell.out j hlt
      have hnx := numL_take T j hlt
      have hXlt := numL_lt (T.take j)
      rw [List.length_take, Nat.min_eq_left (by omega), ← HX.out] at hXlt
      rw [← HX.out] at hnx
      generalize T.getD j 0 = b at hcell hnx
      have hor := or_place X b.toNat j hXlt b.toNat_lt (by omega)
      generalize hY : X + b.toNat * 256 ^ j = Y at hor hnx
      have HY := Lib.hid hnx
      clear hXlt hnx hY
      go_wp2_with fail
      go_round
      case rel => exact ⟨j + 1, Y, by omega, by go_num, rfl, by show Y = _; rw [HY.out]⟩
      case measure => simp [intOf]; omega
    · obtain rfl : j = T.length := by omega
      go_wp2_with fail
      go_ret
      exact ⟨ret_int (by rw [HX.out, List.take_length]), HU.out⟩
end Go.Proofs.YtencbdcfcpohaaaDoor
