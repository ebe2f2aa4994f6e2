/- HeadTells: of two heads, of which one, or both, is turned within four bytes, the newest of those that weren't counts. -/
import Derived.Test.YtencbdcfcpohaaaHeadTurn
import Derived.Test.YtencbdcfcpohaaaHeadAwake
import Derived.Test.YtencbdcfcpohaaaHeadArg
import Derived.RegionTactic
namespace Go.Proofs.Ytencbdcfcpohaaa
set_option linter.unusedVariables false
set_option linter.unusedSimpArgs false
open Go.RowKit


set_option maxRecDepth 100000 in
set_option maxHeartbeats 8000000 in
theorem headTells_tf (g r a b c g' r' a' b' c' : Nat) (hA : HeadOk g r a b c) (hB : HeadOk g' r' a' b' c') (at_ : Int) (M : Nat) (hM : M < 4294967296) (h0 : M ≠ 0) (wh : Int) 
    (e1 : bits .and .i64 wh 1 = 1) (e2 : bits .and .i64 wh 2 = 0) (e3 : bits .and .i64 wh 3 = 1) (w : World) :
    Calls Try.prog 4 #[headV g r a b c, headV g' r' a' b' c', .int .i64 at_, .int .u32 M, .int .i64 wh] w fun e w' => e = .returned (.bool true) ∧ Below w.heap.size w w' := by
  have O0 := ((Own.start w).new 25 #[.int .u64 g, .int .i64 r, .int .i64 a, .int .i64 b, .int .i64 c]).new 25 #[.int .u64 g', .int .i64 r', .int .i64 a', .int .i64 b', .int .i64 c']
  simp only [World.size_alloc] at O0
  obtain ⟨k, hk, hk1⟩ := modU at_ 13 (by omega) (by omega)
  have hk2 : k ≤ 12 := by omega
  have AW := Lib.hid awake6
  have C1 := fun W => hbytes_yes g r a b c W hA
  have C2 := fun W => hbytes_yes g' r' a' b' c' W hB
  have X1 : ∀ m, m < 4294967296 → readL (turnTo (sealL (headL g r a b c)) k m 4) = if m = 0 then ⟨true, g, r, a, b, c⟩ else .none := by
    intro m hm
    by_cases h : m = 0
    · subst h; rw [turn_zero, readL_seal g r a b c hA, if_pos rfl]
    · rw [if_neg h]; exact readL_turned g r a b c k m hk2 hm h
  have X2 : ∀ m, m < 4294967296 → readL (turnTo (sealL (headL g' r' a' b' c')) k m 4) = if m = 0 then ⟨true, g', r', a', b', c'⟩ else .none := by
    intro m hm
    by_cases h : m = 0
    · subst h; rw [turn_zero, readL_seal g' r' a' b' c' hB, if_pos rfl]
    · rw [if_neg h]; exact readL_turned g' r' a' b' c' k m hk2 hm h
  have l1 : (sealL (headL g r a b c)).length = 16 := by rw [sealL_length, headL_length]
  have l2 : (sealL (headL g' r' a' b' c')).length = 16 := by rw [sealL_length, headL_length]
  generalize sealL (headL g r a b c) = L1 at C1 X1 l1
  generalize sealL (headL g' r' a' b' c') = L2 at C2 X2 l2
  have hne : ((M : Int) == 0) = false := by simp; exact h0
  have EA := Lib.hid eq_arr2
  have HC1 := Lib.hid C1
  have HC2 := Lib.hid C2
  clear hA hB C1 C2 hk1
  go_enter Try.func4, Try.ntmps4
  go_wp2_with fail
  refine (AW.out _).mono ?_
  rintro e w1 ⟨rfl, R1⟩
  have O1 := O0.ext R1
  clear O0 R1
  obtain ⟨B, A, -⟩ := O1.all
  have a0 := A.cell 0
  have a1 := A.cell 1
  have a2 := A.cell 2
  have a3 := A.cell 3
  have a4 := A.cell 4
  go_wp2_with fail
  refine (HC1.out _).mono ?_
  rintro e w2 ⟨rfl, R2⟩
  have O2 := O1.ext R2
  clear A B a0 a1 a2 a3 a4 O1 R2
  obtain ⟨B, A, -⟩ := O2.all
  have a0 := B.cell 0
  have a1 := B.cell 1
  have a2 := B.cell 2
  have a3 := B.cell 3
  have a4 := B.cell 4
  go_wp2_with fail
  refine (HC2.out _).mono ?_
  rintro e w3 ⟨rfl, R3⟩
  have O3 := O2.ext R3
  clear A B a0 a1 a2 a3 a4 O2 R3
  obtain ⟨c1, hc1, hc2, hcvA⟩ := conv_row ⟨L1.toArray⟩ w3 (by simp [ByteArray.size, l1, maxLen])
  have s1 : (⟨L1.toArray⟩ : ByteArray).size = 16 := by simp [ByteArray.size, l1]
  have s2 : (⟨L2.toArray⟩ : ByteArray).size = 16 := by simp [ByteArray.size, l2]
  rw [s1] at hc1 hcvA
  obtain ⟨w4, hw4⟩ : ∃ W, W = (w3.alloc (.cells (rowOf L1 c1) 5 (c1, c1 + 1))).drew := ⟨_, rfl⟩
  have B1 : Bytes w4 w3.heap.size L1 c1 := by rw [hw4]; exact Bytes.new_ (w := w3.drew)
  have O4 : Own w.heap.size w [(w.heap.size + 1, 25, #[.int .u64 g', .int .i64 r', .int .i64 a', .int .i64 b', .int .i64 c']), (w.heap.size, 25, #[.int .u64 g, .int .i64 r, .int .i64 a, .int .i64 b, .int .i64 c])] w4 := by rw [hw4]; exact (O3.other _).drew
  have hz1 : w3.heap.size < w4.heap.size := by rw [hw4]; simp
  have hcv1 : (convert 9 42 (.string ⟨L1.toArray⟩)).run Try.prog w3 = .ok (.slice (some ⟨w3.heap.size, 0, none⟩) 16 c1) w4 := by rw [hw4]; exact hcvA
  clear hw4 hcvA
  obtain ⟨c2, hd1, hd2, hcvB⟩ := conv_row ⟨L2.toArray⟩ w4 (by rw [s2]; decide)
  rw [s2] at hd1 hcvB
  obtain ⟨w5, hw5⟩ : ∃ W, W = (w4.alloc (.cells (rowOf L2 c2) 5 (c2, c2 + 1))).drew := ⟨_, rfl⟩
  have D2 : Bytes w5 w4.heap.size L2 c2 := by rw [hw5]; exact Bytes.new_ (w := w4.drew)
  have B2 : Bytes w5 w3.heap.size L1 c1 := by rw [hw5]; exact (B1.below (Ext.alloc w4 _)).drew
  have O5 : Own w.heap.size w [(w.heap.size + 1, 25, #[.int .u64 g', .int .i64 r', .int .i64 a', .int .i64 b', .int .i64 c']), (w.heap.size, 25, #[.int .u64 g, .int .i64 r, .int .i64 a, .int .i64 b, .int .i64 c])] w5 := by rw [hw5]; exact (O4.other _).drew
  have hcv2 : (convert 9 42 (.string ⟨L2.toArray⟩)).run Try.prog w4 = .ok (.slice (some ⟨w4.heap.size, 0, none⟩) 16 c2) w5 := by rw [hw5]; exact hcvB
  have HG : w.heap.size + 1 < w3.heap.size := O3.lt (x := (w.heap.size + 1, _, _)) (by simp; exact ⟨rfl, rfl⟩)
  clear hw5 hcvB B1 O3 O4 s1 s2
  go_upto_region 10 with fail
  generalize w3.heap.size = g1 at B2 hz1 HG ⊢
  generalize w4.heap.size = g2 at D2 hz1 ⊢
  clear hcv1 hcv2 AW HC1 HC2
  go_wp2_with fail
  go_loopw [18] (fun i wr => ∃ j : Nat, j ≤ 4 ∧ i = .int .i64 j ∧ Bytes wr g1 (turnTo L1 k M j) c1 ∧ Bytes wr g2 (L2) c2 ∧ Own w.heap.size w [(w.heap.size + 1, 25, #[.int .u64 g', .int .i64 r', .int .i64 a', .int .i64 b', .int .i64 c']), (w.heap.size, 25, #[.int .u64 g, .int .i64 r, .int .i64 a, .int .i64 b, .int .i64 c])] wr) (fun i _ => 4 - (intOf i).toNat)
  case atStart => exact ⟨0, by omega, rfl, B2, D2, O5⟩
  case round =>
    obtain ⟨j, hj, rfl, hB1, hB2, hO⟩ := hrel
    clear B2 D2 O5
    have hlen1 := Lib.hid (show (turnTo L1 k M j).length = 16 by rw [turnTo_length, l1])
    by_cases hlt : j < 4
    · have hd : turnTo L1 k M (j + 1) = (turnTo L1 k M j).set (k + j) ((turnTo L1 k M j).getD (k + j) 0 ^^^ UInt8.ofNat (M / 256 ^ j)) := rfl
      have hcell := hB1.cell (i := k + j) (by rw [hlen1.out]; omega)
      have hfz := hB1.frozen (i := k + j) (by omega)
      have hx := xor_turn6 ((turnTo L1 k M j).getD (k + j) 0) M j
      have hset := hB1.set_ (i := k + j) (by rw [hlen1.out]; omega) ((turnTo L1 k M j).getD (k + j) 0 ^^^ UInt8.ofNat (M / 256 ^ j))
      rw [← hd] at hset
      have hset2 := hB2.far (p := ⟨g1, k + j, none⟩) (by simp; omega) (.int .u8 (((turnTo L1 k M j).getD (k + j) 0 ^^^ UInt8.ofNat (M / 256 ^ j)).toNat : Int))
      have hsetO := hO.setfar (p := ⟨g1, k + j, none⟩) (by simp; omega) (by simp; omega) (.int .u8 (((turnTo L1 k M j).getD (k + j) 0 ^^^ UInt8.ofNat (M / 256 ^ j)).toNat : Int))
      generalize (turnTo L1 k M j).getD (k + j) 0 = x at hcell hx hset hset2 hsetO
      generalize x ^^^ UInt8.ofNat (M / 256 ^ j) = y at hx hset hset2 hsetO
      clear hd
      generalize hL : turnTo L1 k M (j + 1) = L1' at hset
      have HL1 := Lib.hid hL
      clear hL
      have Hset := Lib.hid hset
      have Hset2 := Lib.hid hset2
      have HsetO := Lib.hid hsetO
      have i1 : ((k : Int) + j) < 16 := by omega
      clear hset hset2 hsetO hB1 hB2 hO
      go_wp2_with fail
      go_region
      all_goals
        go_wp2_with fail
        go_roundw
        case rel => exact ⟨j + 1, by omega, by go_num, by rw [HL1.out]; exact Hset.out.drew, Hset2.out.drew, HsetO.out.drew⟩
        case measure => simp [intOf]; omega
    · obtain rfl : j = 4 := by omega
      have t1 : (turnTo L1 k M 4).length = 16 := by rw [turnTo_length, l1]
      have t2 : (L2).length = 16 := by exact l2
      have q1 : readL (turnTo L1 k M 4) = HeadR.none := by rw [X1 M hM, if_neg h0]
      have q2 : readL (L2) = ⟨true, g', r', a', b', c'⟩ := by have := X2 0 (by decide); rw [turn_zero, if_pos rfl] at this; exact this
      generalize turnTo L1 k M 4 = T1 at t1 q1 hB1
      have R1 : Reads ⟨T1.toArray⟩ HeadR.none := by have := hreads_any ⟨T1.toArray⟩ (by simp [ByteArray.size, t1]); simpa [q1] using this
      have R2 : Reads ⟨L2.toArray⟩ ⟨true, g', r', a', b', c'⟩ := by have := hreads_any ⟨L2.toArray⟩ (by simp [ByteArray.size, t2]); simpa [q2] using this
      have N1 : ∀ W : World, Calls Try.prog 13 #[.string ⟨T1.toArray⟩, .string ⟨L2.toArray⟩] W fun e w' => e = .returned (.tuple #[.agg #[.int .u64 g', .int .i64 r', .int .i64 a', .int .i64 b', .int .i64 c'], .int .i64 1, .int .i64 0]) ∧ Below W.heap.size W w' :=
        fun W => newest_any _ _ _ _ R1 R2 W _ (by simp [newest, HeadR.none, HeadR.e, HeadR.v])
      have V1 : ∀ W : World, Calls Try.prog 11 #[.string ⟨T1.toArray⟩] W fun e w' => e = .returned (.tuple #[.agg #[.int .u64 0, .int .i64 0, .int .i64 0, .int .i64 0, .int .i64 0], .int .i64 3]) ∧ Below W.heap.size W w' := R1
      have hcv1 := hB1.conv c1 16 t1
      have hcv2 := hB2.conv c2 16 t2
      have HN := Lib.hid N1
      have HV := Lib.hid V1
      have EA := EA.out
      clear X1 X2 q1 q2 R1 R2 N1 V1
      go_wp2_with fail
      refine (HN.out _).mono ?_
      rintro e w7 ⟨rfl, R7⟩
      have O7 := (hO.ext R7).new 25 #[.int .u64 g', .int .i64 r', .int .i64 a', .int .i64 b', .int .i64 c']
      have B7 := (hB1.below R7).below (Ext.alloc w7 (.cells #[.int .u64 g', .int .i64 r', .int .i64 a', .int .i64 b', .int .i64 c'] 25))
      clear hcv1 hcv2 hB1 hB2 hO R7
      go_upto_region 18 with fail
      generalize w7.alloc (.cells #[.int .u64 g', .int .i64 r', .int .i64 a', .int .i64 b', .int .i64 c'] 25) = w8 at O7 B7 ⊢
      have hcv1 := B7.conv c1 16 t1
      go_wp2_with fail
      refine (HV.out _).mono ?_
      rintro e w9 ⟨rfl, R9⟩
      have O9 := (O7.ext R9).new 25 #[.int .u64 0, .int .i64 0, .int .i64 0, .int .i64 0, .int .i64 0]
      clear hcv1 B7 O7 R9
      go_upto_region 19 with fail
      generalize w9.alloc (.cells #[.int .u64 0, .int .i64 0, .int .i64 0, .int .i64 0, .int .i64 0] 25) = w10 at O9 ⊢
      obtain ⟨X, N, B, A, -⟩ := O9.all
      have a0 := A.cell 0
      have a1 := A.cell 1
      have a2 := A.cell 2
      have a3 := A.cell 3
      have a4 := A.cell 4
      have b0 := B.cell 0
      have b1 := B.cell 1
      have b2 := B.cell 2
      have b3 := B.cell 3
      have b4 := B.cell 4
      have n0 := N.cell 0
      have n1 := N.cell 1
      have n2 := N.cell 2
      have n3 := N.cell 3
      have n4 := N.cell 4
      have x0 := X.cell 0
      have x1 := X.cell 1
      have x2 := X.cell 2
      have x3 := X.cell 3
      have x4 := X.cell 4
      go_wp2_with fail
      go_ret
      exact ⟨rfl, O9.done⟩

set_option maxRecDepth 100000 in
set_option maxHeartbeats 8000000 in
theorem headTells_ft (g r a b c g' r' a' b' c' : Nat) (hA : HeadOk g r a b c) (hB : HeadOk g' r' a' b' c') (at_ : Int) (M : Nat) (hM : M < 4294967296) (h0 : M ≠ 0) (wh : Int) 
    (e1 : bits .and .i64 wh 1 = 0) (e2 : bits .and .i64 wh 2 = 2) (e3 : bits .and .i64 wh 3 = 2) (w : World) :
    Calls Try.prog 4 #[headV g r a b c, headV g' r' a' b' c', .int .i64 at_, .int .u32 M, .int .i64 wh] w fun e w' => e = .returned (.bool true) ∧ Below w.heap.size w w' := by
  have O0 := ((Own.start w).new 25 #[.int .u64 g, .int .i64 r, .int .i64 a, .int .i64 b, .int .i64 c]).new 25 #[.int .u64 g', .int .i64 r', .int .i64 a', .int .i64 b', .int .i64 c']
  simp only [World.size_alloc] at O0
  obtain ⟨k, hk, hk1⟩ := modU at_ 13 (by omega) (by omega)
  have hk2 : k ≤ 12 := by omega
  have AW := Lib.hid awake6
  have C1 := fun W => hbytes_yes g r a b c W hA
  have C2 := fun W => hbytes_yes g' r' a' b' c' W hB
  have X1 : ∀ m, m < 4294967296 → readL (turnTo (sealL (headL g r a b c)) k m 4) = if m = 0 then ⟨true, g, r, a, b, c⟩ else .none := by
    intro m hm
    by_cases h : m = 0
    · subst h; rw [turn_zero, readL_seal g r a b c hA, if_pos rfl]
    · rw [if_neg h]; exact readL_turned g r a b c k m hk2 hm h
  have X2 : ∀ m, m < 4294967296 → readL (turnTo (sealL (headL g' r' a' b' c')) k m 4) = if m = 0 then ⟨true, g', r', a', b', c'⟩ else .none := by
    intro m hm
    by_cases h : m = 0
    · subst h; rw [turn_zero, readL_seal g' r' a' b' c' hB, if_pos rfl]
    · rw [if_neg h]; exact readL_turned g' r' a' b' c' k m hk2 hm h
  have l1 : (sealL (headL g r a b c)).length = 16 := by rw [sealL_length, headL_length]
  have l2 : (sealL (headL g' r' a' b' c')).length = 16 := by rw [sealL_length, headL_length]
  generalize sealL (headL g r a b c) = L1 at C1 X1 l1
  generalize sealL (headL g' r' a' b' c') = L2 at C2 X2 l2
  have hne : ((M : Int) == 0) = false := by simp; exact h0
  have EA := Lib.hid eq_arr2
  have HC1 := Lib.hid C1
  have HC2 := Lib.hid C2
  clear hA hB C1 C2 hk1
  go_enter Try.func4, Try.ntmps4
  go_wp2_with fail
  refine (AW.out _).mono ?_
  rintro e w1 ⟨rfl, R1⟩
  have O1 := O0.ext R1
  clear O0 R1
  obtain ⟨B, A, -⟩ := O1.all
  have a0 := A.cell 0
  have a1 := A.cell 1
  have a2 := A.cell 2
  have a3 := A.cell 3
  have a4 := A.cell 4
  go_wp2_with fail
  refine (HC1.out _).mono ?_
  rintro e w2 ⟨rfl, R2⟩
  have O2 := O1.ext R2
  clear A B a0 a1 a2 a3 a4 O1 R2
  obtain ⟨B, A, -⟩ := O2.all
  have a0 := B.cell 0
  have a1 := B.cell 1
  have a2 := B.cell 2
  have a3 := B.cell 3
  have a4 := B.cell 4
  go_wp2_with fail
  refine (HC2.out _).mono ?_
  rintro e w3 ⟨rfl, R3⟩
  have O3 := O2.ext R3
  clear A B a0 a1 a2 a3 a4 O2 R3
  obtain ⟨c1, hc1, hc2, hcvA⟩ := conv_row ⟨L1.toArray⟩ w3 (by simp [ByteArray.size, l1, maxLen])
  have s1 : (⟨L1.toArray⟩ : ByteArray).size = 16 := by simp [ByteArray.size, l1]
  have s2 : (⟨L2.toArray⟩ : ByteArray).size = 16 := by simp [ByteArray.size, l2]
  rw [s1] at hc1 hcvA
  obtain ⟨w4, hw4⟩ : ∃ W, W = (w3.alloc (.cells (rowOf L1 c1) 5 (c1, c1 + 1))).drew := ⟨_, rfl⟩
  have B1 : Bytes w4 w3.heap.size L1 c1 := by rw [hw4]; exact Bytes.new_ (w := w3.drew)
  have O4 : Own w.heap.size w [(w.heap.size + 1, 25, #[.int .u64 g', .int .i64 r', .int .i64 a', .int .i64 b', .int .i64 c']), (w.heap.size, 25, #[.int .u64 g, .int .i64 r, .int .i64 a, .int .i64 b, .int .i64 c])] w4 := by rw [hw4]; exact (O3.other _).drew
  have hz1 : w3.heap.size < w4.heap.size := by rw [hw4]; simp
  have hcv1 : (convert 9 42 (.string ⟨L1.toArray⟩)).run Try.prog w3 = .ok (.slice (some ⟨w3.heap.size, 0, none⟩) 16 c1) w4 := by rw [hw4]; exact hcvA
  clear hw4 hcvA
  obtain ⟨c2, hd1, hd2, hcvB⟩ := conv_row ⟨L2.toArray⟩ w4 (by rw [s2]; decide)
  rw [s2] at hd1 hcvB
  obtain ⟨w5, hw5⟩ : ∃ W, W = (w4.alloc (.cells (rowOf L2 c2) 5 (c2, c2 + 1))).drew := ⟨_, rfl⟩
  have D2 : Bytes w5 w4.heap.size L2 c2 := by rw [hw5]; exact Bytes.new_ (w := w4.drew)
  have B2 : Bytes w5 w3.heap.size L1 c1 := by rw [hw5]; exact (B1.below (Ext.alloc w4 _)).drew
  have O5 : Own w.heap.size w [(w.heap.size + 1, 25, #[.int .u64 g', .int .i64 r', .int .i64 a', .int .i64 b', .int .i64 c']), (w.heap.size, 25, #[.int .u64 g, .int .i64 r, .int .i64 a, .int .i64 b, .int .i64 c])] w5 := by rw [hw5]; exact (O4.other _).drew
  have hcv2 : (convert 9 42 (.string ⟨L2.toArray⟩)).run Try.prog w4 = .ok (.slice (some ⟨w4.heap.size, 0, none⟩) 16 c2) w5 := by rw [hw5]; exact hcvB
  have HG : w.heap.size + 1 < w3.heap.size := O3.lt (x := (w.heap.size + 1, _, _)) (by simp; exact ⟨rfl, rfl⟩)
  clear hw5 hcvB B1 O3 O4 s1 s2
  go_upto_region 10 with fail
  generalize w3.heap.size = g1 at B2 hz1 HG ⊢
  generalize w4.heap.size = g2 at D2 hz1 ⊢
  clear hcv1 hcv2 AW HC1 HC2
  go_wp2_with fail
  go_loopw [18] (fun i wr => ∃ j : Nat, j ≤ 4 ∧ i = .int .i64 j ∧ Bytes wr g1 (L1) c1 ∧ Bytes wr g2 (turnTo L2 k M j) c2 ∧ Own w.heap.size w [(w.heap.size + 1, 25, #[.int .u64 g', .int .i64 r', .int .i64 a', .int .i64 b', .int .i64 c']), (w.heap.size, 25, #[.int .u64 g, .int .i64 r, .int .i64 a, .int .i64 b, .int .i64 c])] wr) (fun i _ => 4 - (intOf i).toNat)
  case atStart => exact ⟨0, by omega, rfl, B2, D2, O5⟩
  case round =>
    obtain ⟨j, hj, rfl, hB1, hB2, hO⟩ := hrel
    clear B2 D2 O5
    have hlen2 := Lib.hid (show (turnTo L2 k M j).length = 16 by rw [turnTo_length, l2])
    by_cases hlt : j < 4
    · have hd : turnTo L2 k M (j + 1) = (turnTo L2 k M j).set (k + j) ((turnTo L2 k M j).getD (k + j) 0 ^^^ UInt8.ofNat (M / 256 ^ j)) := rfl
      have hcell := hB2.cell (i := k + j) (by rw [hlen2.out]; omega)
      have hfz := hB2.frozen (i := k + j) (by omega)
      have hx := xor_turn6 ((turnTo L2 k M j).getD (k + j) 0) M j
      have hset := hB2.set_ (i := k + j) (by rw [hlen2.out]; omega) ((turnTo L2 k M j).getD (k + j) 0 ^^^ UInt8.ofNat (M / 256 ^ j))
      rw [← hd] at hset
      have hset2 := hB1.far (p := ⟨g2, k + j, none⟩) (by simp; omega) (.int .u8 (((turnTo L2 k M j).getD (k + j) 0 ^^^ UInt8.ofNat (M / 256 ^ j)).toNat : Int))
      have hsetO := hO.setfar (p := ⟨g2, k + j, none⟩) (by simp; omega) (by simp; omega) (.int .u8 (((turnTo L2 k M j).getD (k + j) 0 ^^^ UInt8.ofNat (M / 256 ^ j)).toNat : Int))
      generalize (turnTo L2 k M j).getD (k + j) 0 = x at hcell hx hset hset2 hsetO
      generalize x ^^^ UInt8.ofNat (M / 256 ^ j) = y at hx hset hset2 hsetO
      clear hd
      generalize hL : turnTo L2 k M (j + 1) = L2' at hset
      have HL2 := Lib.hid hL
      clear hL
      have Hset := Lib.hid hset
      have Hset2 := Lib.hid hset2
      have HsetO := Lib.hid hsetO
      have i1 : ((k : Int) + j) < 16 := by omega
      clear hset hset2 hsetO hB1 hB2 hO
      go_wp2_with fail
      go_region
      all_goals
        go_wp2_with fail
        go_roundw
        case rel => exact ⟨j + 1, by omega, by go_num, Hset2.out.drew, by rw [HL2.out]; exact Hset.out.drew, HsetO.out.drew⟩
        case measure => simp [intOf]; omega
    · obtain rfl : j = 4 := by omega
      have t1 : (L1).length = 16 := by exact l1
      have t2 : (turnTo L2 k M 4).length = 16 := by rw [turnTo_length, l2]
      have q1 : readL (L1) = ⟨true, g, r, a, b, c⟩ := by have := X1 0 (by decide); rw [turn_zero, if_pos rfl] at this; exact this
      have q2 : readL (turnTo L2 k M 4) = HeadR.none := by rw [X2 M hM, if_neg h0]
      generalize turnTo L2 k M 4 = T2 at t2 q2 hB2
      have R1 : Reads ⟨L1.toArray⟩ ⟨true, g, r, a, b, c⟩ := by have := hreads_any ⟨L1.toArray⟩ (by simp [ByteArray.size, t1]); simpa [q1] using this
      have R2 : Reads ⟨T2.toArray⟩ HeadR.none := by have := hreads_any ⟨T2.toArray⟩ (by simp [ByteArray.size, t2]); simpa [q2] using this
      have N1 : ∀ W : World, Calls Try.prog 13 #[.string ⟨L1.toArray⟩, .string ⟨T2.toArray⟩] W fun e w' => e = .returned (.tuple #[.agg #[.int .u64 g, .int .i64 r, .int .i64 a, .int .i64 b, .int .i64 c], .int .i64 0, .int .i64 0]) ∧ Below W.heap.size W w' :=
        fun W => newest_any _ _ _ _ R1 R2 W _ (by simp [newest, HeadR.none, HeadR.e, HeadR.v])
      have V1 : ∀ W : World, Calls Try.prog 11 #[.string ⟨L1.toArray⟩] W fun e w' => e = .returned (.tuple #[.agg #[.int .u64 g, .int .i64 r, .int .i64 a, .int .i64 b, .int .i64 c], .int .i64 0]) ∧ Below W.heap.size W w' := R1
      have hcv1 := hB1.conv c1 16 t1
      have hcv2 := hB2.conv c2 16 t2
      have HN := Lib.hid N1
      have HV := Lib.hid V1
      have EA := EA.out
      clear X1 X2 q1 q2 R1 R2 N1 V1
      go_wp2_with fail
      refine (HN.out _).mono ?_
      rintro e w7 ⟨rfl, R7⟩
      have O7 := (hO.ext R7).new 25 #[.int .u64 g, .int .i64 r, .int .i64 a, .int .i64 b, .int .i64 c]
      have B7 := (hB1.below R7).below (Ext.alloc w7 (.cells #[.int .u64 g, .int .i64 r, .int .i64 a, .int .i64 b, .int .i64 c] 25))
      clear hcv1 hcv2 hB1 hB2 hO R7
      go_upto_region 18 with fail
      generalize w7.alloc (.cells #[.int .u64 g, .int .i64 r, .int .i64 a, .int .i64 b, .int .i64 c] 25) = w8 at O7 B7 ⊢
      have hcv1 := B7.conv c1 16 t1
      go_wp2_with fail
      refine (HV.out _).mono ?_
      rintro e w9 ⟨rfl, R9⟩
      have O9 := (O7.ext R9).new 25 #[.int .u64 g, .int .i64 r, .int .i64 a, .int .i64 b, .int .i64 c]
      clear hcv1 B7 O7 R9
      go_upto_region 19 with fail
      generalize w9.alloc (.cells #[.int .u64 g, .int .i64 r, .int .i64 a, .int .i64 b, .int .i64 c] 25) = w10 at O9 ⊢
      obtain ⟨X, N, B, A, -⟩ := O9.all
      have a0 := A.cell 0
      have a1 := A.cell 1
      have a2 := A.cell 2
      have a3 := A.cell 3
      have a4 := A.cell 4
      have b0 := B.cell 0
      have b1 := B.cell 1
      have b2 := B.cell 2
      have b3 := B.cell 3
      have b4 := B.cell 4
      have n0 := N.cell 0
      have n1 := N.cell 1
      have n2 := N.cell 2
      have n3 := N.cell 3
      have n4 := N.cell 4
      have x0 := X.cell 0
      have x1 := X.cell 1
      have x2 := X.cell 2
      have x3 := X.cell 3
      have x4 := X.cell 4
      go_wp2_with fail
      go_ret
      exact ⟨rfl, O9.done⟩

set_option maxRecDepth 100000 in
set_option maxHeartbeats 8000000 in
theorem headTells_tt (g r a b c g' r' a' b' c' : Nat) (hA : HeadOk g r a b c) (hB : HeadOk g' r' a' b' c') (at_ : Int) (M : Nat) (hM : M < 4294967296) (h0 : M ≠ 0) (wh : Int) 
    (e1 : bits .and .i64 wh 1 = 1) (e2 : bits .and .i64 wh 2 = 2) (e3 : bits .and .i64 wh 3 = 3) (w : World) :
    Calls Try.prog 4 #[headV g r a b c, headV g' r' a' b' c', .int .i64 at_, .int .u32 M, .int .i64 wh] w fun e w' => e = .returned (.bool true) ∧ Below w.heap.size w w' := by
  have O0 := ((Own.start w).new 25 #[.int .u64 g, .int .i64 r, .int .i64 a, .int .i64 b, .int .i64 c]).new 25 #[.int .u64 g', .int .i64 r', .int .i64 a', .int .i64 b', .int .i64 c']
  simp only [World.size_alloc] at O0
  obtain ⟨k, hk, hk1⟩ := modU at_ 13 (by omega) (by omega)
  have hk2 : k ≤ 12 := by omega
  have AW := Lib.hid awake6
  have C1 := fun W => hbytes_yes g r a b c W hA
  have C2 := fun W => hbytes_yes g' r' a' b' c' W hB
  have X1 : ∀ m, m < 4294967296 → readL (turnTo (sealL (headL g r a b c)) k m 4) = if m = 0 then ⟨true, g, r, a, b, c⟩ else .none := by
    intro m hm
    by_cases h : m = 0
    · subst h; rw [turn_zero, readL_seal g r a b c hA, if_pos rfl]
    · rw [if_neg h]; exact readL_turned g r a b c k m hk2 hm h
  have X2 : ∀ m, m < 4294967296 → readL (turnTo (sealL (headL g' r' a' b' c')) k m 4) = if m = 0 then ⟨true, g', r', a', b', c'⟩ else .none := by
    intro m hm
    by_cases h : m = 0
    · subst h; rw [turn_zero, readL_seal g' r' a' b' c' hB, if_pos rfl]
    · rw [if_neg h]; exact readL_turned g' r' a' b' c' k m hk2 hm h
  have l1 : (sealL (headL g r a b c)).length = 16 := by rw [sealL_length, headL_length]
  have l2 : (sealL (headL g' r' a' b' c')).length = 16 := by rw [sealL_length, headL_length]
  generalize sealL (headL g r a b c) = L1 at C1 X1 l1
  generalize sealL (headL g' r' a' b' c') = L2 at C2 X2 l2
  have hne : ((M : Int) == 0) = false := by simp; exact h0
  have EA := Lib.hid eq_arr2
  have HC1 := Lib.hid C1
  have HC2 := Lib.hid C2
  clear hA hB C1 C2 hk1
  go_enter Try.func4, Try.ntmps4
  go_wp2_with fail
  refine (AW.out _).mono ?_
  rintro e w1 ⟨rfl, R1⟩
  have O1 := O0.ext R1
  clear O0 R1
  obtain ⟨B, A, -⟩ := O1.all
  have a0 := A.cell 0
  have a1 := A.cell 1
  have a2 := A.cell 2
  have a3 := A.cell 3
  have a4 := A.cell 4
  go_wp2_with fail
  refine (HC1.out _).mono ?_
  rintro e w2 ⟨rfl, R2⟩
  have O2 := O1.ext R2
  clear A B a0 a1 a2 a3 a4 O1 R2
  obtain ⟨B, A, -⟩ := O2.all
  have a0 := B.cell 0
  have a1 := B.cell 1
  have a2 := B.cell 2
  have a3 := B.cell 3
  have a4 := B.cell 4
  go_wp2_with fail
  refine (HC2.out _).mono ?_
  rintro e w3 ⟨rfl, R3⟩
  have O3 := O2.ext R3
  clear A B a0 a1 a2 a3 a4 O2 R3
  obtain ⟨c1, hc1, hc2, hcvA⟩ := conv_row ⟨L1.toArray⟩ w3 (by simp [ByteArray.size, l1, maxLen])
  have s1 : (⟨L1.toArray⟩ : ByteArray).size = 16 := by simp [ByteArray.size, l1]
  have s2 : (⟨L2.toArray⟩ : ByteArray).size = 16 := by simp [ByteArray.size, l2]
  rw [s1] at hc1 hcvA
  obtain ⟨w4, hw4⟩ : ∃ W, W = (w3.alloc (.cells (rowOf L1 c1) 5 (c1, c1 + 1))).drew := ⟨_, rfl⟩
  have B1 : Bytes w4 w3.heap.size L1 c1 := by rw [hw4]; exact Bytes.new_ (w := w3.drew)
  have O4 : Own w.heap.size w [(w.heap.size + 1, 25, #[.int .u64 g', .int .i64 r', .int .i64 a', .int .i64 b', .int .i64 c']), (w.heap.size, 25, #[.int .u64 g, .int .i64 r, .int .i64 a, .int .i64 b, .int .i64 c])] w4 := by rw [hw4]; exact (O3.other _).drew
  have hz1 : w3.heap.size < w4.heap.size := by rw [hw4]; simp
  have hcv1 : (convert 9 42 (.string ⟨L1.toArray⟩)).run Try.prog w3 = .ok (.slice (some ⟨w3.heap.size, 0, none⟩) 16 c1) w4 := by rw [hw4]; exact hcvA
  clear hw4 hcvA
  obtain ⟨c2, hd1, hd2, hcvB⟩ := conv_row ⟨L2.toArray⟩ w4 (by rw [s2]; decide)
  rw [s2] at hd1 hcvB
  obtain ⟨w5, hw5⟩ : ∃ W, W = (w4.alloc (.cells (rowOf L2 c2) 5 (c2, c2 + 1))).drew := ⟨_, rfl⟩
  have D2 : Bytes w5 w4.heap.size L2 c2 := by rw [hw5]; exact Bytes.new_ (w := w4.drew)
  have B2 : Bytes w5 w3.heap.size L1 c1 := by rw [hw5]; exact (B1.below (Ext.alloc w4 _)).drew
  have O5 : Own w.heap.size w [(w.heap.size + 1, 25, #[.int .u64 g', .int .i64 r', .int .i64 a', .int .i64 b', .int .i64 c']), (w.heap.size, 25, #[.int .u64 g, .int .i64 r, .int .i64 a, .int .i64 b, .int .i64 c])] w5 := by rw [hw5]; exact (O4.other _).drew
  have hcv2 : (convert 9 42 (.string ⟨L2.toArray⟩)).run Try.prog w4 = .ok (.slice (some ⟨w4.heap.size, 0, none⟩) 16 c2) w5 := by rw [hw5]; exact hcvB
  have HG : w.heap.size + 1 < w3.heap.size := O3.lt (x := (w.heap.size + 1, _, _)) (by simp; exact ⟨rfl, rfl⟩)
  clear hw5 hcvB B1 O3 O4 s1 s2
  go_upto_region 10 with fail
  generalize w3.heap.size = g1 at B2 hz1 HG ⊢
  generalize w4.heap.size = g2 at D2 hz1 ⊢
  clear hcv1 hcv2 AW HC1 HC2
  go_wp2_with fail
  go_loopw [18] (fun i wr => ∃ j : Nat, j ≤ 4 ∧ i = .int .i64 j ∧ Bytes wr g1 (turnTo L1 k M j) c1 ∧ Bytes wr g2 (turnTo L2 k M j) c2 ∧ Own w.heap.size w [(w.heap.size + 1, 25, #[.int .u64 g', .int .i64 r', .int .i64 a', .int .i64 b', .int .i64 c']), (w.heap.size, 25, #[.int .u64 g, .int .i64 r, .int .i64 a, .int .i64 b, .int .i64 c])] wr) (fun i _ => 4 - (intOf i).toNat)
  case atStart => exact ⟨0, by omega, rfl, B2, D2, O5⟩
  case round =>
    obtain ⟨j, hj, rfl, hB1, hB2, hO⟩ := hrel
    clear B2 D2 O5
    have hlen1 := Lib.hid (show (turnTo L1 k M j).length = 16 by rw [turnTo_length, l1])
    have hlen2 := Lib.hid (show (turnTo L2 k M j).length = 16 by rw [turnTo_length, l2])
    by_cases hlt : j < 4
    · have hd : turnTo L1 k M (j + 1) = (turnTo L1 k M j).set (k + j) ((turnTo L1 k M j).getD (k + j) 0 ^^^ UInt8.ofNat (M / 256 ^ j)) := rfl
      have hcell := hB1.cell (i := k + j) (by rw [hlen1.out]; omega)
      have hfz := hB1.frozen (i := k + j) (by omega)
      have hx := xor_turn6 ((turnTo L1 k M j).getD (k + j) 0) M j
      have hset := hB1.set_ (i := k + j) (by rw [hlen1.out]; omega) ((turnTo L1 k M j).getD (k + j) 0 ^^^ UInt8.ofNat (M / 256 ^ j))
      rw [← hd] at hset
      have hset2 := hB2.far (p := ⟨g1, k + j, none⟩) (by simp; omega) (.int .u8 (((turnTo L1 k M j).getD (k + j) 0 ^^^ UInt8.ofNat (M / 256 ^ j)).toNat : Int))
      have hsetO := hO.setfar (p := ⟨g1, k + j, none⟩) (by simp; omega) (by simp; omega) (.int .u8 (((turnTo L1 k M j).getD (k + j) 0 ^^^ UInt8.ofNat (M / 256 ^ j)).toNat : Int))
      generalize (turnTo L1 k M j).getD (k + j) 0 = x at hcell hx hset hset2 hsetO
      generalize x ^^^ UInt8.ofNat (M / 256 ^ j) = y at hx hset hset2 hsetO
      clear hd
      generalize hL : turnTo L1 k M (j + 1) = L1' at hset
      have HL1 := Lib.hid hL
      clear hL
      have Hset := Lib.hid hset
      have Hset2 := Lib.hid hset2
      have HsetO := Lib.hid hsetO
      have i1 : ((k : Int) + j) < 16 := by omega
      clear hset hset2 hsetO hB1 hB2 hO
      go_wp2_with fail
      go_region
      all_goals
        have hB1 := Hset.out.drew
        have hB2 := Hset2.out.drew
        have hO := HsetO.out.drew
        clear hcell hfz hx Hset Hset2 HsetO i1
        have hd : turnTo L2 k M (j + 1) = (turnTo L2 k M j).set (k + j) ((turnTo L2 k M j).getD (k + j) 0 ^^^ UInt8.ofNat (M / 256 ^ j)) := rfl
        have hcell := hB2.cell (i := k + j) (by rw [hlen2.out]; omega)
        have hfz := hB2.frozen (i := k + j) (by omega)
        have hx := xor_turn6 ((turnTo L2 k M j).getD (k + j) 0) M j
        have hset := hB2.set_ (i := k + j) (by rw [hlen2.out]; omega) ((turnTo L2 k M j).getD (k + j) 0 ^^^ UInt8.ofNat (M / 256 ^ j))
        rw [← hd] at hset
        have hset2 := hB1.far (p := ⟨g2, k + j, none⟩) (by simp; omega) (.int .u8 (((turnTo L2 k M j).getD (k + j) 0 ^^^ UInt8.ofNat (M / 256 ^ j)).toNat : Int))
        have hsetO := hO.setfar (p := ⟨g2, k + j, none⟩) (by simp; omega) (by simp; omega) (.int .u8 (((turnTo L2 k M j).getD (k + j) 0 ^^^ UInt8.ofNat (M / 256 ^ j)).toNat : Int))
        generalize (turnTo L2 k M j).getD (k + j) 0 = x at hcell hx hset hset2 hsetO
        generalize x ^^^ UInt8.ofNat (M / 256 ^ j) = y at hx hset hset2 hsetO
        clear hd
        generalize hL : turnTo L2 k M (j + 1) = L2' at hset
        have HL2 := Lib.hid hL
        clear hL
        have Hset := Lib.hid hset
        have Hset2 := Lib.hid hset2
        have HsetO := Lib.hid hsetO
        have i1 : ((k : Int) + j) < 16 := by omega
        clear hset hset2 hsetO hB1 hB2 hO
        go_wp2_with fail
        go_region
        all_goals
          go_wp2_with fail
          go_roundw
          case rel => exact ⟨j + 1, by omega, by go_num, by rw [HL1.out]; exact Hset2.out.drew, by rw [HL2.out]; exact Hset.out.drew, HsetO.out.drew⟩
          case measure => simp [intOf]; omega
    · obtain rfl : j = 4 := by omega
      have t1 : (turnTo L1 k M 4).length = 16 := by rw [turnTo_length, l1]
      have t2 : (turnTo L2 k M 4).length = 16 := by rw [turnTo_length, l2]
      have q1 : readL (turnTo L1 k M 4) = HeadR.none := by rw [X1 M hM, if_neg h0]
      have q2 : readL (turnTo L2 k M 4) = HeadR.none := by rw [X2 M hM, if_neg h0]
      generalize turnTo L1 k M 4 = T1 at t1 q1 hB1
      generalize turnTo L2 k M 4 = T2 at t2 q2 hB2
      have R1 : Reads ⟨T1.toArray⟩ HeadR.none := by have := hreads_any ⟨T1.toArray⟩ (by simp [ByteArray.size, t1]); simpa [q1] using this
      have R2 : Reads ⟨T2.toArray⟩ HeadR.none := by have := hreads_any ⟨T2.toArray⟩ (by simp [ByteArray.size, t2]); simpa [q2] using this
      have N1 : ∀ W : World, Calls Try.prog 13 #[.string ⟨T1.toArray⟩, .string ⟨T2.toArray⟩] W fun e w' => e = .returned (.tuple #[.agg #[.int .u64 0, .int .i64 0, .int .i64 0, .int .i64 0, .int .i64 0], .int .i64 0, .int .i64 3]) ∧ Below W.heap.size W w' :=
        fun W => newest_any _ _ _ _ R1 R2 W _ (by simp [newest, HeadR.none, HeadR.e, HeadR.v])
      have V1 : ∀ W : World, Calls Try.prog 11 #[.string ⟨T1.toArray⟩] W fun e w' => e = .returned (.tuple #[.agg #[.int .u64 0, .int .i64 0, .int .i64 0, .int .i64 0, .int .i64 0], .int .i64 3]) ∧ Below W.heap.size W w' := R1
      have hcv1 := hB1.conv c1 16 t1
      have hcv2 := hB2.conv c2 16 t2
      have HN := Lib.hid N1
      have HV := Lib.hid V1
      have EA := EA.out
      clear X1 X2 q1 q2 R1 R2 N1 V1
      go_wp2_with fail
      refine (HN.out _).mono ?_
      rintro e w7 ⟨rfl, R7⟩
      have O7 := (hO.ext R7).new 25 #[.int .u64 0, .int .i64 0, .int .i64 0, .int .i64 0, .int .i64 0]
      have B7 := (hB1.below R7).below (Ext.alloc w7 (.cells #[.int .u64 0, .int .i64 0, .int .i64 0, .int .i64 0, .int .i64 0] 25))
      clear hcv1 hcv2 hB1 hB2 hO R7
      go_upto_region 18 with fail
      generalize w7.alloc (.cells #[.int .u64 0, .int .i64 0, .int .i64 0, .int .i64 0, .int .i64 0] 25) = w8 at O7 B7 ⊢
      have hcv1 := B7.conv c1 16 t1
      go_wp2_with fail
      refine (HV.out _).mono ?_
      rintro e w9 ⟨rfl, R9⟩
      have O9 := (O7.ext R9).new 25 #[.int .u64 0, .int .i64 0, .int .i64 0, .int .i64 0, .int .i64 0]
      clear hcv1 B7 O7 R9
      go_upto_region 19 with fail
      generalize w9.alloc (.cells #[.int .u64 0, .int .i64 0, .int .i64 0, .int .i64 0, .int .i64 0] 25) = w10 at O9 ⊢
      obtain ⟨X, N, B, A, -⟩ := O9.all
      have a0 := A.cell 0
      have a1 := A.cell 1
      have a2 := A.cell 2
      have a3 := A.cell 3
      have a4 := A.cell 4
      have b0 := B.cell 0
      have b1 := B.cell 1
      have b2 := B.cell 2
      have b3 := B.cell 3
      have b4 := B.cell 4
      have n0 := N.cell 0
      have n1 := N.cell 1
      have n2 := N.cell 2
      have n3 := N.cell 3
      have n4 := N.cell 4
      have x0 := X.cell 0
      have x1 := X.cell 1
      have x2 := X.cell 2
      have x3 := X.cell 3
      have x4 := X.cell 4
      go_wp2_with fail
      go_ret
      exact ⟨rfl, O9.done⟩

set_option maxRecDepth 100000 in
set_option maxHeartbeats 8000000 in
theorem headTells_ge (g r a b c g' r' a' b' c' : Nat) (hA : HeadOk g r a b c) (hB : HeadOk g' r' a' b' c') (at_ : Int) (M : Nat) (hM : M < 4294967296) (h0 : M ≠ 0) (wh : Int) 
    (e1 : bits .and .i64 wh 1 = 0) (e2 : bits .and .i64 wh 2 = 0) (e3 : bits .and .i64 wh 3 = 0) (hge : g' ≤ g) (w : World) :
    Calls Try.prog 4 #[headV g r a b c, headV g' r' a' b' c', .int .i64 at_, .int .u32 M, .int .i64 wh] w fun e w' => e = .returned (.bool true) ∧ Below w.heap.size w w' := by
  have O0 := ((Own.start w).new 25 #[.int .u64 g, .int .i64 r, .int .i64 a, .int .i64 b, .int .i64 c]).new 25 #[.int .u64 g', .int .i64 r', .int .i64 a', .int .i64 b', .int .i64 c']
  simp only [World.size_alloc] at O0
  obtain ⟨k, hk, hk1⟩ := modU at_ 13 (by omega) (by omega)
  have hk2 : k ≤ 12 := by omega
  have AW := Lib.hid awake6
  have C1 := fun W => hbytes_yes g r a b c W hA
  have C2 := fun W => hbytes_yes g' r' a' b' c' W hB
  have X1 : ∀ m, m < 4294967296 → readL (turnTo (sealL (headL g r a b c)) k m 4) = if m = 0 then ⟨true, g, r, a, b, c⟩ else .none := by
    intro m hm
    by_cases h : m = 0
    · subst h; rw [turn_zero, readL_seal g r a b c hA, if_pos rfl]
    · rw [if_neg h]; exact readL_turned g r a b c k m hk2 hm h
  have X2 : ∀ m, m < 4294967296 → readL (turnTo (sealL (headL g' r' a' b' c')) k m 4) = if m = 0 then ⟨true, g', r', a', b', c'⟩ else .none := by
    intro m hm
    by_cases h : m = 0
    · subst h; rw [turn_zero, readL_seal g' r' a' b' c' hB, if_pos rfl]
    · rw [if_neg h]; exact readL_turned g' r' a' b' c' k m hk2 hm h
  have l1 : (sealL (headL g r a b c)).length = 16 := by rw [sealL_length, headL_length]
  have l2 : (sealL (headL g' r' a' b' c')).length = 16 := by rw [sealL_length, headL_length]
  generalize sealL (headL g r a b c) = L1 at C1 X1 l1
  generalize sealL (headL g' r' a' b' c') = L2 at C2 X2 l2
  have hne : ((M : Int) == 0) = false := by simp; exact h0
  have EA := Lib.hid eq_arr2
  have HC1 := Lib.hid C1
  have HC2 := Lib.hid C2
  clear hA hB C1 C2 hk1
  go_enter Try.func4, Try.ntmps4
  go_wp2_with fail
  refine (AW.out _).mono ?_
  rintro e w1 ⟨rfl, R1⟩
  have O1 := O0.ext R1
  clear O0 R1
  obtain ⟨B, A, -⟩ := O1.all
  have a0 := A.cell 0
  have a1 := A.cell 1
  have a2 := A.cell 2
  have a3 := A.cell 3
  have a4 := A.cell 4
  go_wp2_with fail
  refine (HC1.out _).mono ?_
  rintro e w2 ⟨rfl, R2⟩
  have O2 := O1.ext R2
  clear A B a0 a1 a2 a3 a4 O1 R2
  obtain ⟨B, A, -⟩ := O2.all
  have a0 := B.cell 0
  have a1 := B.cell 1
  have a2 := B.cell 2
  have a3 := B.cell 3
  have a4 := B.cell 4
  go_wp2_with fail
  refine (HC2.out _).mono ?_
  rintro e w3 ⟨rfl, R3⟩
  have O3 := O2.ext R3
  clear A B a0 a1 a2 a3 a4 O2 R3
  obtain ⟨c1, hc1, hc2, hcvA⟩ := conv_row ⟨L1.toArray⟩ w3 (by simp [ByteArray.size, l1, maxLen])
  have s1 : (⟨L1.toArray⟩ : ByteArray).size = 16 := by simp [ByteArray.size, l1]
  have s2 : (⟨L2.toArray⟩ : ByteArray).size = 16 := by simp [ByteArray.size, l2]
  rw [s1] at hc1 hcvA
  obtain ⟨w4, hw4⟩ : ∃ W, W = (w3.alloc (.cells (rowOf L1 c1) 5 (c1, c1 + 1))).drew := ⟨_, rfl⟩
  have B1 : Bytes w4 w3.heap.size L1 c1 := by rw [hw4]; exact Bytes.new_ (w := w3.drew)
  have O4 : Own w.heap.size w [(w.heap.size + 1, 25, #[.int .u64 g', .int .i64 r', .int .i64 a', .int .i64 b', .int .i64 c']), (w.heap.size, 25, #[.int .u64 g, .int .i64 r, .int .i64 a, .int .i64 b, .int .i64 c])] w4 := by rw [hw4]; exact (O3.other _).drew
  have hz1 : w3.heap.size < w4.heap.size := by rw [hw4]; simp
  have hcv1 : (convert 9 42 (.string ⟨L1.toArray⟩)).run Try.prog w3 = .ok (.slice (some ⟨w3.heap.size, 0, none⟩) 16 c1) w4 := by rw [hw4]; exact hcvA
  clear hw4 hcvA
  obtain ⟨c2, hd1, hd2, hcvB⟩ := conv_row ⟨L2.toArray⟩ w4 (by rw [s2]; decide)
  rw [s2] at hd1 hcvB
  obtain ⟨w5, hw5⟩ : ∃ W, W = (w4.alloc (.cells (rowOf L2 c2) 5 (c2, c2 + 1))).drew := ⟨_, rfl⟩
  have D2 : Bytes w5 w4.heap.size L2 c2 := by rw [hw5]; exact Bytes.new_ (w := w4.drew)
  have B2 : Bytes w5 w3.heap.size L1 c1 := by rw [hw5]; exact (B1.below (Ext.alloc w4 _)).drew
  have O5 : Own w.heap.size w [(w.heap.size + 1, 25, #[.int .u64 g', .int .i64 r', .int .i64 a', .int .i64 b', .int .i64 c']), (w.heap.size, 25, #[.int .u64 g, .int .i64 r, .int .i64 a, .int .i64 b, .int .i64 c])] w5 := by rw [hw5]; exact (O4.other _).drew
  have hcv2 : (convert 9 42 (.string ⟨L2.toArray⟩)).run Try.prog w4 = .ok (.slice (some ⟨w4.heap.size, 0, none⟩) 16 c2) w5 := by rw [hw5]; exact hcvB
  have HG : w.heap.size + 1 < w3.heap.size := O3.lt (x := (w.heap.size + 1, _, _)) (by simp; exact ⟨rfl, rfl⟩)
  clear hw5 hcvB B1 O3 O4 s1 s2
  go_upto_region 10 with fail
  generalize w3.heap.size = g1 at B2 hz1 HG ⊢
  generalize w4.heap.size = g2 at D2 hz1 ⊢
  clear hcv1 hcv2 AW HC1 HC2
  go_wp2_with fail
  go_loopw [18] (fun i wr => ∃ j : Nat, j ≤ 4 ∧ i = .int .i64 j ∧ Bytes wr g1 (L1) c1 ∧ Bytes wr g2 (L2) c2 ∧ Own w.heap.size w [(w.heap.size + 1, 25, #[.int .u64 g', .int .i64 r', .int .i64 a', .int .i64 b', .int .i64 c']), (w.heap.size, 25, #[.int .u64 g, .int .i64 r, .int .i64 a, .int .i64 b, .int .i64 c])] wr) (fun i _ => 4 - (intOf i).toNat)
  case atStart => exact ⟨0, by omega, rfl, B2, D2, O5⟩
  case round =>
    obtain ⟨j, hj, rfl, hB1, hB2, hO⟩ := hrel
    clear B2 D2 O5
    by_cases hlt : j < 4
    · clear EA X1 X2
      go_wp2_with fail
      go_roundw
      case rel => exact ⟨j + 1, by omega, by go_num, hB1, hB2, hO⟩
      case measure => simp [intOf]; omega
    · obtain rfl : j = 4 := by omega
      have t1 : (L1).length = 16 := by exact l1
      have t2 : (L2).length = 16 := by exact l2
      have q1 : readL (L1) = ⟨true, g, r, a, b, c⟩ := by have := X1 0 (by decide); rw [turn_zero, if_pos rfl] at this; exact this
      have q2 : readL (L2) = ⟨true, g', r', a', b', c'⟩ := by have := X2 0 (by decide); rw [turn_zero, if_pos rfl] at this; exact this
      have R1 : Reads ⟨L1.toArray⟩ ⟨true, g, r, a, b, c⟩ := by have := hreads_any ⟨L1.toArray⟩ (by simp [ByteArray.size, t1]); simpa [q1] using this
      have R2 : Reads ⟨L2.toArray⟩ ⟨true, g', r', a', b', c'⟩ := by have := hreads_any ⟨L2.toArray⟩ (by simp [ByteArray.size, t2]); simpa [q2] using this
      have N1 : ∀ W : World, Calls Try.prog 13 #[.string ⟨L1.toArray⟩, .string ⟨L2.toArray⟩] W fun e w' => e = .returned (.tuple #[.agg #[.int .u64 g, .int .i64 r, .int .i64 a, .int .i64 b, .int .i64 c], .int .i64 0, .int .i64 0]) ∧ Below W.heap.size W w' :=
        fun W => newest_any _ _ _ _ R1 R2 W _ (by simp [newest, HeadR.none, HeadR.e, HeadR.v, hge])
      have V1 : ∀ W : World, Calls Try.prog 11 #[.string ⟨L1.toArray⟩] W fun e w' => e = .returned (.tuple #[.agg #[.int .u64 g, .int .i64 r, .int .i64 a, .int .i64 b, .int .i64 c], .int .i64 0]) ∧ Below W.heap.size W w' := R1
      have hcv1 := hB1.conv c1 16 t1
      have hcv2 := hB2.conv c2 16 t2
      have HN := Lib.hid N1
      have HV := Lib.hid V1
      have EA := EA.out
      clear X1 X2 q1 q2 R1 R2 N1 V1
      go_wp2_with fail
      refine (HN.out _).mono ?_
      rintro e w7 ⟨rfl, R7⟩
      have O7 := (hO.ext R7).new 25 #[.int .u64 g, .int .i64 r, .int .i64 a, .int .i64 b, .int .i64 c]
      have B7 := (hB1.below R7).below (Ext.alloc w7 (.cells #[.int .u64 g, .int .i64 r, .int .i64 a, .int .i64 b, .int .i64 c] 25))
      clear hcv1 hcv2 hB1 hB2 hO R7
      go_upto_region 18 with fail
      generalize w7.alloc (.cells #[.int .u64 g, .int .i64 r, .int .i64 a, .int .i64 b, .int .i64 c] 25) = w8 at O7 B7 ⊢
      have hcv1 := B7.conv c1 16 t1
      go_wp2_with fail
      refine (HV.out _).mono ?_
      rintro e w9 ⟨rfl, R9⟩
      have O9 := (O7.ext R9).new 25 #[.int .u64 g, .int .i64 r, .int .i64 a, .int .i64 b, .int .i64 c]
      clear hcv1 B7 O7 R9
      go_upto_region 19 with fail
      generalize w9.alloc (.cells #[.int .u64 g, .int .i64 r, .int .i64 a, .int .i64 b, .int .i64 c] 25) = w10 at O9 ⊢
      obtain ⟨X, N, B, A, -⟩ := O9.all
      have a0 := A.cell 0
      have a1 := A.cell 1
      have a2 := A.cell 2
      have a3 := A.cell 3
      have a4 := A.cell 4
      have b0 := B.cell 0
      have b1 := B.cell 1
      have b2 := B.cell 2
      have b3 := B.cell 3
      have b4 := B.cell 4
      have n0 := N.cell 0
      have n1 := N.cell 1
      have n2 := N.cell 2
      have n3 := N.cell 3
      have n4 := N.cell 4
      have x0 := X.cell 0
      have x1 := X.cell 1
      have x2 := X.cell 2
      have x3 := X.cell 3
      have x4 := X.cell 4
      go_wp2_with fail
      go_ret
      exact ⟨rfl, O9.done⟩

set_option maxRecDepth 100000 in
set_option maxHeartbeats 8000000 in
theorem headTells_lt (g r a b c g' r' a' b' c' : Nat) (hA : HeadOk g r a b c) (hB : HeadOk g' r' a' b' c') (at_ : Int) (M : Nat) (hM : M < 4294967296) (h0 : M ≠ 0) (wh : Int) 
    (e1 : bits .and .i64 wh 1 = 0) (e2 : bits .and .i64 wh 2 = 0) (e3 : bits .and .i64 wh 3 = 0) (hge : g < g') (w : World) :
    Calls Try.prog 4 #[headV g r a b c, headV g' r' a' b' c', .int .i64 at_, .int .u32 M, .int .i64 wh] w fun e w' => e = .returned (.bool true) ∧ Below w.heap.size w w' := by
  have O0 := ((Own.start w).new 25 #[.int .u64 g, .int .i64 r, .int .i64 a, .int .i64 b, .int .i64 c]).new 25 #[.int .u64 g', .int .i64 r', .int .i64 a', .int .i64 b', .int .i64 c']
  simp only [World.size_alloc] at O0
  obtain ⟨k, hk, hk1⟩ := modU at_ 13 (by omega) (by omega)
  have hk2 : k ≤ 12 := by omega
  have AW := Lib.hid awake6
  have C1 := fun W => hbytes_yes g r a b c W hA
  have C2 := fun W => hbytes_yes g' r' a' b' c' W hB
  have X1 : ∀ m, m < 4294967296 → readL (turnTo (sealL (headL g r a b c)) k m 4) = if m = 0 then ⟨true, g, r, a, b, c⟩ else .none := by
    intro m hm
    by_cases h : m = 0
    · subst h; rw [turn_zero, readL_seal g r a b c hA, if_pos rfl]
    · rw [if_neg h]; exact readL_turned g r a b c k m hk2 hm h
  have X2 : ∀ m, m < 4294967296 → readL (turnTo (sealL (headL g' r' a' b' c')) k m 4) = if m = 0 then ⟨true, g', r', a', b', c'⟩ else .none := by
    intro m hm
    by_cases h : m = 0
    · subst h; rw [turn_zero, readL_seal g' r' a' b' c' hB, if_pos rfl]
    · rw [if_neg h]; exact readL_turned g' r' a' b' c' k m hk2 hm h
  have l1 : (sealL (headL g r a b c)).length = 16 := by rw [sealL_length, headL_length]
  have l2 : (sealL (headL g' r' a' b' c')).length = 16 := by rw [sealL_length, headL_length]
  generalize sealL (headL g r a b c) = L1 at C1 X1 l1
  generalize sealL (headL g' r' a' b' c') = L2 at C2 X2 l2
  have hne : ((M : Int) == 0) = false := by simp; exact h0
  have EA := Lib.hid eq_arr2
  have HC1 := Lib.hid C1
  have HC2 := Lib.hid C2
  clear hA hB C1 C2 hk1
  go_enter Try.func4, Try.ntmps4
  go_wp2_with fail
  refine (AW.out _).mono ?_
  rintro e w1 ⟨rfl, R1⟩
  have O1 := O0.ext R1
  clear O0 R1
  obtain ⟨B, A, -⟩ := O1.all
  have a0 := A.cell 0
  have a1 := A.cell 1
  have a2 := A.cell 2
  have a3 := A.cell 3
  have a4 := A.cell 4
  go_wp2_with fail
  refine (HC1.out _).mono ?_
  rintro e w2 ⟨rfl, R2⟩
  have O2 := O1.ext R2
  clear A B a0 a1 a2 a3 a4 O1 R2
  obtain ⟨B, A, -⟩ := O2.all
  have a0 := B.cell 0
  have a1 := B.cell 1
  have a2 := B.cell 2
  have a3 := B.cell 3
  have a4 := B.cell 4
  go_wp2_with fail
  refine (HC2.out _).mono ?_
  rintro e w3 ⟨rfl, R3⟩
  have O3 := O2.ext R3
  clear A B a0 a1 a2 a3 a4 O2 R3
  obtain ⟨c1, hc1, hc2, hcvA⟩ := conv_row ⟨L1.toArray⟩ w3 (by simp [ByteArray.size, l1, maxLen])
  have s1 : (⟨L1.toArray⟩ : ByteArray).size = 16 := by simp [ByteArray.size, l1]
  have s2 : (⟨L2.toArray⟩ : ByteArray).size = 16 := by simp [ByteArray.size, l2]
  rw [s1] at hc1 hcvA
  obtain ⟨w4, hw4⟩ : ∃ W, W = (w3.alloc (.cells (rowOf L1 c1) 5 (c1, c1 + 1))).drew := ⟨_, rfl⟩
  have B1 : Bytes w4 w3.heap.size L1 c1 := by rw [hw4]; exact Bytes.new_ (w := w3.drew)
  have O4 : Own w.heap.size w [(w.heap.size + 1, 25, #[.int .u64 g', .int .i64 r', .int .i64 a', .int .i64 b', .int .i64 c']), (w.heap.size, 25, #[.int .u64 g, .int .i64 r, .int .i64 a, .int .i64 b, .int .i64 c])] w4 := by rw [hw4]; exact (O3.other _).drew
  have hz1 : w3.heap.size < w4.heap.size := by rw [hw4]; simp
  have hcv1 : (convert 9 42 (.string ⟨L1.toArray⟩)).run Try.prog w3 = .ok (.slice (some ⟨w3.heap.size, 0, none⟩) 16 c1) w4 := by rw [hw4]; exact hcvA
  clear hw4 hcvA
  obtain ⟨c2, hd1, hd2, hcvB⟩ := conv_row ⟨L2.toArray⟩ w4 (by rw [s2]; decide)
  rw [s2] at hd1 hcvB
  obtain ⟨w5, hw5⟩ : ∃ W, W = (w4.alloc (.cells (rowOf L2 c2) 5 (c2, c2 + 1))).drew := ⟨_, rfl⟩
  have D2 : Bytes w5 w4.heap.size L2 c2 := by rw [hw5]; exact Bytes.new_ (w := w4.drew)
  have B2 : Bytes w5 w3.heap.size L1 c1 := by rw [hw5]; exact (B1.below (Ext.alloc w4 _)).drew
  have O5 : Own w.heap.size w [(w.heap.size + 1, 25, #[.int .u64 g', .int .i64 r', .int .i64 a', .int .i64 b', .int .i64 c']), (w.heap.size, 25, #[.int .u64 g, .int .i64 r, .int .i64 a, .int .i64 b, .int .i64 c])] w5 := by rw [hw5]; exact (O4.other _).drew
  have hcv2 : (convert 9 42 (.string ⟨L2.toArray⟩)).run Try.prog w4 = .ok (.slice (some ⟨w4.heap.size, 0, none⟩) 16 c2) w5 := by rw [hw5]; exact hcvB
  have HG : w.heap.size + 1 < w3.heap.size := O3.lt (x := (w.heap.size + 1, _, _)) (by simp; exact ⟨rfl, rfl⟩)
  clear hw5 hcvB B1 O3 O4 s1 s2
  go_upto_region 10 with fail
  generalize w3.heap.size = g1 at B2 hz1 HG ⊢
  generalize w4.heap.size = g2 at D2 hz1 ⊢
  clear hcv1 hcv2 AW HC1 HC2
  go_wp2_with fail
  go_loopw [18] (fun i wr => ∃ j : Nat, j ≤ 4 ∧ i = .int .i64 j ∧ Bytes wr g1 (L1) c1 ∧ Bytes wr g2 (L2) c2 ∧ Own w.heap.size w [(w.heap.size + 1, 25, #[.int .u64 g', .int .i64 r', .int .i64 a', .int .i64 b', .int .i64 c']), (w.heap.size, 25, #[.int .u64 g, .int .i64 r, .int .i64 a, .int .i64 b, .int .i64 c])] wr) (fun i _ => 4 - (intOf i).toNat)
  case atStart => exact ⟨0, by omega, rfl, B2, D2, O5⟩
  case round =>
    obtain ⟨j, hj, rfl, hB1, hB2, hO⟩ := hrel
    clear B2 D2 O5
    by_cases hlt : j < 4
    · clear EA X1 X2
      go_wp2_with fail
      go_roundw
      case rel => exact ⟨j + 1, by omega, by go_num, hB1, hB2, hO⟩
      case measure => simp [intOf]; omega
    · obtain rfl : j = 4 := by omega
      have t1 : (L1).length = 16 := by exact l1
      have t2 : (L2).length = 16 := by exact l2
      have q1 : readL (L1) = ⟨true, g, r, a, b, c⟩ := by have := X1 0 (by decide); rw [turn_zero, if_pos rfl] at this; exact this
      have q2 : readL (L2) = ⟨true, g', r', a', b', c'⟩ := by have := X2 0 (by decide); rw [turn_zero, if_pos rfl] at this; exact this
      have R1 : Reads ⟨L1.toArray⟩ ⟨true, g, r, a, b, c⟩ := by have := hreads_any ⟨L1.toArray⟩ (by simp [ByteArray.size, t1]); simpa [q1] using this
      have R2 : Reads ⟨L2.toArray⟩ ⟨true, g', r', a', b', c'⟩ := by have := hreads_any ⟨L2.toArray⟩ (by simp [ByteArray.size, t2]); simpa [q2] using this
      have N1 : ∀ W : World, Calls Try.prog 13 #[.string ⟨L1.toArray⟩, .string ⟨L2.toArray⟩] W fun e w' => e = .returned (.tuple #[.agg #[.int .u64 g', .int .i64 r', .int .i64 a', .int .i64 b', .int .i64 c'], .int .i64 1, .int .i64 0]) ∧ Below W.heap.size W w' :=
        fun W => newest_any _ _ _ _ R1 R2 W _ (by simp [newest, HeadR.none, HeadR.e, HeadR.v, show ¬ g' ≤ g by omega])
      have V1 : ∀ W : World, Calls Try.prog 11 #[.string ⟨L1.toArray⟩] W fun e w' => e = .returned (.tuple #[.agg #[.int .u64 g, .int .i64 r, .int .i64 a, .int .i64 b, .int .i64 c], .int .i64 0]) ∧ Below W.heap.size W w' := R1
      have hcv1 := hB1.conv c1 16 t1
      have hcv2 := hB2.conv c2 16 t2
      have HN := Lib.hid N1
      have HV := Lib.hid V1
      have EA := EA.out
      clear X1 X2 q1 q2 R1 R2 N1 V1
      go_wp2_with fail
      refine (HN.out _).mono ?_
      rintro e w7 ⟨rfl, R7⟩
      have O7 := (hO.ext R7).new 25 #[.int .u64 g', .int .i64 r', .int .i64 a', .int .i64 b', .int .i64 c']
      have B7 := (hB1.below R7).below (Ext.alloc w7 (.cells #[.int .u64 g', .int .i64 r', .int .i64 a', .int .i64 b', .int .i64 c'] 25))
      clear hcv1 hcv2 hB1 hB2 hO R7
      go_upto_region 18 with fail
      generalize w7.alloc (.cells #[.int .u64 g', .int .i64 r', .int .i64 a', .int .i64 b', .int .i64 c'] 25) = w8 at O7 B7 ⊢
      have hcv1 := B7.conv c1 16 t1
      go_wp2_with fail
      refine (HV.out _).mono ?_
      rintro e w9 ⟨rfl, R9⟩
      have O9 := (O7.ext R9).new 25 #[.int .u64 g, .int .i64 r, .int .i64 a, .int .i64 b, .int .i64 c]
      clear hcv1 B7 O7 R9
      go_upto_region 19 with fail
      generalize w9.alloc (.cells #[.int .u64 g, .int .i64 r, .int .i64 a, .int .i64 b, .int .i64 c] 25) = w10 at O9 ⊢
      obtain ⟨X, N, B, A, -⟩ := O9.all
      have a0 := A.cell 0
      have a1 := A.cell 1
      have a2 := A.cell 2
      have a3 := A.cell 3
      have a4 := A.cell 4
      have b0 := B.cell 0
      have b1 := B.cell 1
      have b2 := B.cell 2
      have b3 := B.cell 3
      have b4 := B.cell 4
      have n0 := N.cell 0
      have n1 := N.cell 1
      have n2 := N.cell 2
      have n3 := N.cell 3
      have n4 := N.cell 4
      have x0 := X.cell 0
      have x1 := X.cell 1
      have x2 := X.cell 2
      have x3 := X.cell 3
      have x4 := X.cell 4
      go_wp2_with fail
      go_ret
      exact ⟨rfl, O9.done⟩

theorem hbytes_all (g : Nat) (r a b c : Int) : ∃ (q : ByteArray) (x : Int), (x = if HeadOk g r a b c then 0 else 1) ∧ ∀ w : World, Calls Try.prog 7 #[headV g r a b c] w fun e w' => e = .returned (.tuple #[.string q, .int .i64 x]) ∧ Below w.heap.size w w' := by
  by_cases hok : HeadOk g r a b c
  · obtain ⟨R, rfl⟩ : ∃ n : Nat, r = n := ⟨r.toNat, by omega⟩
    obtain ⟨X, rfl⟩ : ∃ n : Nat, a = n := ⟨a.toNat, by omega⟩
    obtain ⟨Y, rfl⟩ : ∃ n : Nat, b = n := ⟨b.toNat, by omega⟩
    obtain ⟨Z, rfl⟩ : ∃ n : Nat, c = n := ⟨c.toNat, by omega⟩
    exact ⟨_, 0, by rw [if_pos hok], fun w => hbytes_yes g R X Y Z w hok⟩
  · exact ⟨_, 1, by rw [if_neg hok], fun w => hbytes_no g r a b c w hok⟩

set_option maxRecDepth 100000 in
set_option maxHeartbeats 4000000 in
theorem headTells_early (g : Nat) (r a b c : Int) (g' : Nat) (r' a' b' c' : Int) (at_ : Int) (M : Nat) (wh : Int) (x y : Int) (q q' : ByteArray) (hx : x = 0 ∨ x = 1) (hy : y = 0 ∨ y = 1) (h : ¬ (x = 0 ∧ y = 0 ∧ M ≠ 0))
    (HA : ∀ w : World, Calls Try.prog 7 #[headV g r a b c] w fun e w' => e = .returned (.tuple #[.string q, .int .i64 x]) ∧ Below w.heap.size w w')
    (HB : ∀ w : World, Calls Try.prog 7 #[headV g' r' a' b' c'] w fun e w' => e = .returned (.tuple #[.string q', .int .i64 y]) ∧ Below w.heap.size w w') (w : World) :
    Calls Try.prog 4 #[headV g r a b c, headV g' r' a' b' c', .int .i64 at_, .int .u32 M, .int .i64 wh] w fun e w' => e = .returned (.bool true) ∧ Below w.heap.size w w' := by
  have O0 := ((Own.start w).new 25 #[.int .u64 g, .int .i64 r, .int .i64 a, .int .i64 b, .int .i64 c]).new 25 #[.int .u64 g', .int .i64 r', .int .i64 a', .int .i64 b', .int .i64 c']
  simp only [World.size_alloc] at O0
  have AW := Lib.hid awake6
  have HC1 := Lib.hid HA
  have HC2 := Lib.hid HB
  have hc : (x = 1 ∧ y = 0) ∨ (x = 1 ∧ y = 1) ∨ (x = 0 ∧ y = 1) ∨ (x = 0 ∧ y = 0 ∧ M = 0) := by omega
  clear HA HB h hx hy
  rcases hc with ⟨rfl, rfl⟩ | ⟨rfl, rfl⟩ | ⟨rfl, rfl⟩ | ⟨rfl, rfl, rfl⟩
  all_goals
    go_enter Try.func4, Try.ntmps4
    go_wp2_with fail
    refine (AW.out _).mono ?_
    rintro e w1 ⟨rfl, R1⟩
    have O1 := O0.ext R1
    clear O0 R1
    obtain ⟨B, A, -⟩ := O1.all
    have a0 := A.cell 0
    have a1 := A.cell 1
    have a2 := A.cell 2
    have a3 := A.cell 3
    have a4 := A.cell 4
    go_wp2_with fail
    refine (HC1.out _).mono ?_
    rintro e w2 ⟨rfl, R2⟩
    have O2 := O1.ext R2
    clear A B a0 a1 a2 a3 a4 O1 R2
    obtain ⟨B, A, -⟩ := O2.all
    have a0 := B.cell 0
    have a1 := B.cell 1
    have a2 := B.cell 2
    have a3 := B.cell 3
    have a4 := B.cell 4
    go_wp2_with fail
    refine (HC2.out _).mono ?_
    rintro e w3 ⟨rfl, R3⟩
    have O3 := O2.ext R3
    clear A B a0 a1 a2 a3 a4 O2 R3
    go_wp2_with fail
    go_ret
    exact ⟨rfl, O3.done⟩

theorem headTells_core (g : Nat) (r a b c : Int) (g' : Nat) (r' a' b' c' : Int) (at_ : Int) (M : Nat) (hM : M < 4294967296) (wh : Int) (w : World) :
    Calls Try.prog 4 #[headV g r a b c, headV g' r' a' b' c', .int .i64 at_, .int .u32 M, .int .i64 wh] w fun e w' => e = .returned (.bool true) ∧ Below w.heap.size w w' := by
  by_cases hall : HeadOk g r a b c ∧ HeadOk g' r' a' b' c' ∧ M ≠ 0
  · obtain ⟨hA, hB, h0⟩ := hall
    obtain ⟨r, rfl⟩ : ∃ n : Nat, r = n := ⟨r.toNat, by omega⟩
    obtain ⟨a, rfl⟩ : ∃ n : Nat, a = n := ⟨a.toNat, by omega⟩
    obtain ⟨b, rfl⟩ : ∃ n : Nat, b = n := ⟨b.toNat, by omega⟩
    obtain ⟨c, rfl⟩ : ∃ n : Nat, c = n := ⟨c.toNat, by omega⟩
    obtain ⟨r', rfl⟩ : ∃ n : Nat, r' = n := ⟨r'.toNat, by omega⟩
    obtain ⟨a', rfl⟩ : ∃ n : Nat, a' = n := ⟨a'.toNat, by omega⟩
    obtain ⟨b', rfl⟩ : ∃ n : Nat, b' = n := ⟨b'.toNat, by omega⟩
    obtain ⟨c', rfl⟩ : ∃ n : Nat, c' = n := ⟨c'.toNat, by omega⟩
    have x1 := i64_and1 wh
    have x2 := i64_and2 wh
    have x3 := i64_and3 wh
    have hm : wh % 4 = 0 ∨ wh % 4 = 1 ∨ wh % 4 = 2 ∨ wh % 4 = 3 := by omega
    rcases hm with hm | hm | hm | hm
    · by_cases hge : g' ≤ g
      · exact headTells_ge g r a b c g' r' a' b' c' hA hB at_ M hM h0 wh (by rw [x1]; omega) (by rw [x2]; omega) (by rw [x3]; omega) hge w
      · exact headTells_lt g r a b c g' r' a' b' c' hA hB at_ M hM h0 wh (by rw [x1]; omega) (by rw [x2]; omega) (by rw [x3]; omega) (by omega) w
    · exact headTells_tf g r a b c g' r' a' b' c' hA hB at_ M hM h0 wh (by rw [x1]; omega) (by rw [x2]; omega) (by rw [x3]; omega) w
    · exact headTells_ft g r a b c g' r' a' b' c' hA hB at_ M hM h0 wh (by rw [x1]; omega) (by rw [x2]; omega) (by rw [x3]; omega) w
    · exact headTells_tt g r a b c g' r' a' b' c' hA hB at_ M hM h0 wh (by rw [x1]; omega) (by rw [x2]; omega) (by rw [x3]; omega) w
  · obtain ⟨q, x, hx, HA⟩ := hbytes_all g r a b c
    obtain ⟨q', y, hy, HB⟩ := hbytes_all g' r' a' b' c'
    refine headTells_early g r a b c g' r' a' b' c' at_ M wh x y q q' (by rw [hx]; split <;> simp) (by rw [hy]; split <;> simp) ?_ HA HB w
    rintro ⟨h1, h2, h3⟩
    refine hall ⟨?_, ?_, h3⟩
    · by_cases h : HeadOk g r a b c
      · exact h
      · rw [hx, if_neg h] at h1; cases h1
    · by_cases h : HeadOk g' r' a' b' c'
      · exact h
      · rw [hy, if_neg h] at h2; cases h2

theorem headTells_walk (w : World) (v0 v1 v2 v3 v4 : Value) (h0 : Arg Try.prog w 25 v0) (h1 : Arg Try.prog w 25 v1) (h2 : Arg Try.prog w 3 v2) (h3 : Arg Try.prog w 41 v3) (h4 : Arg Try.prog w 3 v4) :
    Calls Try.prog 4 #[v0, v1, v2, v3, v4] w fun e w' => e = .returned (.bool true) ∧ Below w.heap.size w w' := by
  obtain ⟨g, r, a, b, c, rfl, _⟩ := arg_head h0
  obtain ⟨g', r', a', b', c', rfl, _⟩ := arg_head h1
  obtain ⟨at_, rfl, _⟩ := arg_int Try.underlying3 h2
  obtain ⟨m, rfl, hm⟩ := arg_int Try.underlying41 h3
  obtain ⟨wh, rfl, _⟩ := arg_int Try.underlying3 h4
  have hb := bounds_u32 hm
  obtain ⟨M, rfl⟩ : ∃ n : Nat, m = n := ⟨m.toNat, by omega⟩
  exact headTells_core g r a b c g' r' a' b' c' at_ M (by omega) wh w
end Go.Proofs.Ytencbdcfcpohaaa
