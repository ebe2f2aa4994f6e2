/- OctetApart: unlike numbers have unlike bytes. -/
import Derived.Test.YtencbdcfcpohaaaDoorW2
import Derived.Test.YtencbdcfcpohaaaDoorFitB
namespace Go.Proofs.YtencbdcfcpohaaaDoor
set_option linter.unusedVariables false
set_option linter.unusedSimpArgs false
open Go.RowKit

def encs (k : Nat) (l : List Int) : List UInt8 := l.flatMap fun x => le x.toNat k
theorem encs_length (k : Nat) (l : List Int) : (encs k l).length = l.length * k := by
  unfold encs
  induction l with
  | nil => simp
  | cons x l ih => simp [le_length, ih, Nat.add_mul, Nat.add_comm]
theorem encs_take (k : Nat) (l : List Int) (j : Nat) (h : j < l.length) : encs k (l.take (j + 1)) = encs k (l.take j) ++ le l[j].toNat k := by
  unfold encs
  rw [List.take_succ_eq_append_getElem h, List.flatMap_append]
  simp
theorem le_mod (n k : Nat) : le n k = le (n % 256 ^ k) k := by
  have h := numL_le (n % 256 ^ k) k (Nat.mod_lt _ (Nat.pow_pos (by decide)))
  apply List.ext_getElem?
  intro i
  by_cases hi : i < k
  · rw [le_get n k i hi, le_get (n % 256 ^ k) k i hi]
    congr 1
    apply UInt8.toNat.inj
    rw [UInt8.toNat_ofNat', UInt8.toNat_ofNat']
    obtain ⟨m, hm⟩ : ∃ m, k = i + 1 + m := ⟨k - i - 1, by omega⟩
    have e : 256 ^ k = 256 ^ i * (256 * 256 ^ m) := by rw [hm, Nat.pow_add, Nat.pow_succ, Nat.mul_assoc]
    rw [e, Nat.mod_mul_right_div_self, Nat.mod_mul_right_mod]
  · rw [List.getElem?_eq_none (by rw [le_length]; omega), List.getElem?_eq_none (by rw [le_length]; omega)]
theorem le_iff (n m k : Nat) : le n k = le m k ↔ n % 256 ^ k = m % 256 ^ k := by
  constructor
  · intro h
    rw [le_mod n, le_mod m] at h
    have := congrArg numL h
    rwa [numL_le _ _ (Nat.mod_lt _ (Nat.pow_pos (by decide))), numL_le _ _ (Nat.mod_lt _ (Nat.pow_pos (by decide)))] at this
  · intro h
    rw [le_mod n, le_mod m, h]
theorem same_step (k : Nat) (xs ys : List Int) (j : Nat) (hx : j < xs.length) (hy : j < ys.length) :
    decide (encs k (xs.take (j + 1)) = encs k (ys.take (j + 1))) = (decide (encs k (xs.take j) = encs k (ys.take j)) && decide (xs[j].toNat % 256 ^ k = ys[j].toNat % 256 ^ k)) := by
  rw [Bool.eq_iff_iff, Bool.and_eq_true, decide_eq_true_iff, decide_eq_true_iff, decide_eq_true_iff, encs_take k xs j hx, encs_take k ys j hy, ← le_iff]
  constructor
  · intro h
    exact List.append_inj h (by rw [encs_length, encs_length, List.length_take, List.length_take]; congr 1; omega)
  · intro h
    rw [h.1, h.2]

theorem Row1.cell_at {E : Type} {w w' : World} {b o : Nat} {enc : E → Value} {xs : List E} (h : Row1 w (some ⟨b, o, none⟩) enc xs) (hb : Below w.heap.size w w') {i : Nat} (hi : i < xs.length) : w'.cell? ⟨b, o + i, none⟩ = some (enc xs[i]) := by
  obtain ⟨b', o', he, _, hc⟩ := h.in_ hb hi
  cases he
  exact hc
set_option maxHeartbeats 4000000 in
theorem octetApart_core (A A' : Option Addr) (len cap len' cap' : Nat) (xs ys : List Int) (size : Int) (w : World) (hlen : xs.length = len) (hlen' : ys.length = len') (hm : len ≤ maxLen) (hm' : len' ≤ maxLen) (hx : ∀ x ∈ xs, 0 ≤ x ∧ x ≤ 18446744073709551615) (hy : ∀ x ∈ ys, 0 ≤ x ∧ x ≤ 18446744073709551615)
    (hrow : Row1 w A (Value.int .u64) xs) (hrow' : Row1 w A' (Value.int .u64) ys) :
    Calls Tryd.prog 6 #[.slice A len cap, .slice A' len' cap', .int .i64 size] w fun e w' => e = .returned (.bool true) ∧ Below w.heap.size w w' := by
  unfold maxLen at hm hm'
  obtain ⟨kk, hk, hk1⟩ := modU size 8 (by omega) (by omega)
  obtain ⟨k, hkk, hk2, hk3⟩ : ∃ k : Nat, 1 + (kk : Int) = k ∧ 1 ≤ k ∧ k ≤ 8 := ⟨kk + 1, by omega, by omega, by omega⟩
  have AW := Lib.hid awake1
  go_enter Tryd.func6, Tryd.ntmps6
  go_wp2_with fail
  refine (AW.out _).mono ?_
  rintro e w1 ⟨rfl, hb1⟩
  have W0 := W2.new_ w1
  go_upto_region 7 with fail
  generalize hN : (if (40 : Int) < (if len' < len then (len' : Int) else len) then (40 : Int) else (if len' < len then (len' : Int) else len)) = N
  obtain ⟨n, rfl, hn1, hn2, hn3⟩ : ∃ n : Nat, N = n ∧ n ≤ len ∧ n ≤ len' ∧ n ≤ 40 := by
    refine ⟨N.toNat, ?_, ?_, ?_, ?_⟩ <;> (rw [← hN]; (repeat' split) <;> omega)
  go_wp2_with fail
  clear hN hk hkk hk1
  go_loopw [11, 12] (fun s i wr => ∃ (j : Nat) (B : Bool), j ≤ n ∧ i = .int .i64 j ∧ s = .bool B ∧ Hid (decide (encs k (xs.take j) = encs k (ys.take j)) = B) ∧ W2 w1 w1.heap.size w1.heap.size (w1.heap.size + 1) (encs k (xs.take j)) (encs k (ys.take j)) wr) (fun _ i _ => n - (intOf i).toNat)
  case atStart => exact ⟨0, true, by omega, rfl, rfl, by simp [Hid], by simpa [encs] using W0⟩
  case round =>
    obtain ⟨j, B, hj, rfl, rfl, HB, hW⟩ := hrel
    clear W0
    by_cases hlt : j < n
    · have hjx : j < xs.length := by omega
      have hjy : j < ys.length := by omega
      obtain ⟨b0, o0, rfl, hlt0, q0⟩ := hrow.in_ (below_then hb1 hW.below) hjx
      obtain ⟨b1, o1, rfl, hlt1, q1⟩ := hrow'.in_ (below_then hb1 hW.below) hjy
      obtain ⟨X, hX⟩ : ∃ X : Nat, xs[j] = (X : Int) := ⟨xs[j].toNat, by have := hx _ (List.getElem_mem hjx); omega⟩
      obtain ⟨Y, hY⟩ : ∃ Y : Nat, ys[j] = (Y : Int) := ⟨ys[j].toNat, by have := hy _ (List.getElem_mem hjy); omega⟩
      have hX1 : X < 18446744073709551616 := by have := hx _ (List.getElem_mem hjx); omega
      have hY1 : Y < 18446744073709551616 := by have := hy _ (List.getElem_mem hjy); omega
      have HQ0 := Lib.hid (fun (W : World) (hb : Below w.heap.size w W) => (hrow.cell_at hb hjx).trans (by rw [hX]) : ∀ W : World, Below w.heap.size w W → W.cell? ⟨b0, o0 + j, none⟩ = some (.int .u64 X))
      have HQ1 := Lib.hid (fun (W : World) (hb : Below w.heap.size w W) => (hrow'.cell_at hb hjy).trans (by rw [hY]) : ∀ W : World, Below w.heap.size w W → W.cell? ⟨b1, o1 + j, none⟩ = some (.int .u64 Y))
      rw [hX] at q0
      clear q1
      have hst := same_step k xs ys j hjx hjy
      rw [hX, hY, HB.out] at hst
      simp only [Int.toNat_natCast] at hst
      have HST := Lib.hid hst
      have ex := encs_take k xs j hjx
      have ey := encs_take k ys j hjy
      rw [hX] at ex
      rw [hY] at ey
      simp only [Int.toNat_natCast] at ex ey
      have EX := Lib.hid ex
      have EY := Lib.hid ey
      have lx : (encs k (xs.take j)).length ≤ 1000 := by rw [encs_length, List.length_take]; have : min j xs.length * k ≤ 40 * 8 := Nat.mul_le_mul (by omega) hk3; omega
      have ly : (encs k (ys.take j)).length ≤ 1000 := by rw [encs_length, List.length_take]; have : min j ys.length * k ≤ 40 * 8 := Nat.mul_le_mul (by omega) hk3; omega
      clear hst ex ey hX hY
      have hcl : clampSize k = k := getN_clamp k hk2 hk3
      have Hcl := Lib.hid hcl
      clear hcl
      go_wp2_with fail
      refine (hW.put1 X k k Hcl.out hX1 (by omega)).mono ?_
      rintro e w2 ⟨rfl, hW⟩
      clear q0
      have q1 := HQ1.out _ (below_then hb1 hW.below)
      go_wp2_with fail
      refine (hW.put2 Y k k Hcl.out hY1 (by omega)).mono ?_
      rintro e w3 ⟨rfl, hW⟩
      clear q1
      have q0 := HQ0.out _ (below_then hb1 hW.below)
      have q1 := HQ1.out _ (below_then hb1 hW.below)
      by_cases h8 : k < 8
      · have h8' : (k : Int) < 8 := by omega
        have h8d : decide ((k : Int) < 8) = true := by simpa using h8'
        obtain ⟨M, hM⟩ : ∃ M : Nat, 256 ^ k = M := ⟨_, rfl⟩
        have hM1 : 0 < M := by rw [← hM]; exact Nat.pow_pos (by decide)
        have hM2 : M < 18446744073709551616 := by rw [← hM]; have := Nat.pow_le_pow_right (show 0 < 256 by decide) (show k ≤ 7 by omega); omega
        have hsh : IntKind.u64.wrap (2 ^ (8 * k)) = (M : Int) := by
          have e : (2 : Int) ^ (8 * k) = ((256 ^ k : Nat) : Int) := by rw [show (256 : Nat) = 2 ^ 8 by decide, ← Nat.pow_mul]; simp
          rw [e, hM]
          exact IntWalk.u64_in _ (by omega)
        have hMz : ¬ ((M : Int) = 0) := by omega
        have hMz2 : ((M : Int) == 0) = false := by simp; omega
        have hE : ((X : Int) % M == (Y : Int) % M) = decide (X % M = Y % M) := by rw [Bool.eq_iff_iff, beq_iff_eq, decide_eq_true_iff]; omega
        rw [hM] at HST
        generalize decide (X % M = Y % M) = E at hE HST
        have hMn : ¬ M = 0 := by omega
        clear hM hMz hM1 hM2
        cases B
        · go_wp2_with fail
          go_roundw
          case rel => exact ⟨j + 1, _, by omega, by go_num, rfl, by rw [HST.out]; rfl, by rw [EX.out, EY.out]; exact hW⟩
          case measure => simp [intOf]; omega
        · go_wp2_with fail
          go_roundw
          case rel => exact ⟨j + 1, _, by omega, by go_num, rfl, by rw [HST.out]; simp [Hid], by rw [EX.out, EY.out]; exact hW⟩
          case measure => simp [intOf]; omega
      · have h8' : ¬ (k : Int) < 8 := by omega
        have h8d : decide ((k : Int) < 8) = false := by simp; omega
        have e8 : 256 ^ k = 18446744073709551616 := by rw [show k = 8 by omega]
        have hE : ((X : Int) == (Y : Int)) = decide (X % 256 ^ k = Y % 256 ^ k) := by rw [Bool.eq_iff_iff, beq_iff_eq, decide_eq_true_iff, e8, Nat.mod_eq_of_lt hX1, Nat.mod_eq_of_lt hY1]; omega
        clear e8
        generalize decide (X % 256 ^ k = Y % 256 ^ k) = E at hE HST
        cases B
        · go_wp2_with fail
          go_roundw
          case rel => exact ⟨j + 1, _, by omega, by go_num, rfl, by rw [HST.out]; rfl, by rw [EX.out, EY.out]; exact hW⟩
          case measure => simp [intOf]; omega
        · go_wp2_with fail
          go_roundw
          case rel => exact ⟨j + 1, _, by omega, by go_num, rfl, by rw [HST.out]; simp [Hid], by rw [EX.out, EY.out]; exact hW⟩
          case measure => simp [intOf]; omega
    · obtain rfl : j = n := by omega
      clear hlt hj hx hy hrow hrow'
      have lx : ((encs k (xs.take j)).length : Int) = (j : Int) * k := by rw [encs_length, List.length_take, Nat.min_eq_left (by omega)]; exact Int.natCast_mul j k
      have ly : ((encs k (ys.take j)).length : Int) = (j : Int) * k := by rw [encs_length, List.length_take, Nat.min_eq_left (by omega)]; exact Int.natCast_mul j k
      have hjk : j * k ≤ 40 * 8 := Nat.mul_le_mul hn3 hk3
      have hjk' : (j : Int) * k ≤ 320 := by rw [← Int.natCast_mul]; omega
      have hjk0 : 0 ≤ (j : Int) * k := by rw [← Int.natCast_mul]; omega
      generalize encs k (xs.take j) = L at HB hW lx
      generalize encs k (ys.take j) = L' at HB hW ly
      have hq : ((⟨L.toArray⟩ : ByteArray).toList == (⟨L'.toArray⟩ : ByteArray).toList) = B := by
        rw [← HB.out, Bool.eq_iff_iff, beq_iff_eq, decide_eq_true_iff, ByteArray.toList_eq, ByteArray.toList_eq]
      simp only [ByteArray.toList_eq] at hq
      go_wp2_with fail
      refine hW.str1.mono ?_
      rintro e w5 ⟨rfl, hW⟩
      go_wp2_with fail
      refine hW.str2.mono ?_
      rintro e w6 ⟨rfl, hW⟩
      cases B
      · go_wp2_with fail
        refine hW.len1.mono ?_
        rintro e w7 ⟨rfl, rfl⟩
        go_wp2_with fail
        refine hW.len2.mono ?_
        rintro e w8 ⟨rfl, rfl⟩
        go_wp2_with fail
        go_ret
        exact ⟨rfl, below_then hb1 hW.below⟩
      · go_wp2_with fail
        refine hW.len1.mono ?_
        rintro e w7 ⟨rfl, rfl⟩
        go_wp2_with fail
        refine hW.len2.mono ?_
        rintro e w8 ⟨rfl, rfl⟩
        go_wp2_with fail
        go_ret
        exact ⟨rfl, below_then hb1 hW.below⟩
theorem octetApart_walk (w : World) (v0 v1 v2 : Value) (h0 : Arg Tryd.prog w 53 v0) (h1 : Arg Tryd.prog w 53 v1) (h2 : Arg Tryd.prog w 3 v2) :
    Calls Tryd.prog 6 #[v0, v1, v2] w fun e w' => e = .returned (.bool true) ∧ Below w.heap.size w w' := by
  obtain ⟨A, len, cap, xs, rfl, hc, hm, h3, h5, h4⟩ := arg_ints Tryd.underlying53 Tryd.underlying31 (by kernel_rfl) h0
  obtain ⟨A', len', cap', ys, rfl, hc', hm', h3', h5', h4'⟩ := arg_ints Tryd.underlying53 Tryd.underlying31 (by kernel_rfl) h1
  obtain ⟨s, rfl, _⟩ := arg_int Tryd.underlying3 h2
  exact octetApart_core A A' len cap len' cap' xs ys s w h3 h3' (by omega) (by omega) (fun x hx => bounds_u64 (h5 x hx)) (fun x hx => bounds_u64 (h5' x hx)) h4 h4'
end Go.Proofs.YtencbdcfcpohaaaDoor
