/- HeadTurns: heads that are written to the one sector and the other by turns: the newest is the last one; where that is torn it is the one ahead of it. -/
import Derived.Test.YtencbdcfcpohaaaHeadTurn
import Derived.Test.YtencbdcfcpohaaaHeadAwake
import Derived.Test.YtencbdcfcpohaaaHeadArg
import Derived.RegionTactic
namespace Go.Proofs.Ytencbdcfcpohaaa
set_option linter.unusedVariables false
set_option linter.unusedSimpArgs false
open Go.RowKit

def hbs (r a b c m : Nat) : ByteArray := if m = 0 then ⟨#[]⟩ else ⟨(sealL (headL m r a b c)).toArray⟩
def hrd (r a b c m : Nat) : HeadR := if m = 0 then .none else ⟨true, m, r, a, b, c⟩
theorem readL_nil : readL [] = .none := by unfold readL; rw [if_neg]; intro h; cases h.1
theorem hrd_pos (r a b c m : Nat) (h : 1 ≤ m) : hrd r a b c m = ⟨true, m, r, a, b, c⟩ := by unfold hrd; rw [if_neg (by omega)]
theorem hrd_reads {r a b c : Nat} (h : HeadOk 1 r a b c) (m : Nat) (hm : m ≤ 1000000) : Reads (hbs r a b c m) (hrd r a b c m) := by
  unfold hbs hrd
  by_cases h0 : m = 0
  · rw [if_pos h0, if_pos h0]
    have := hreads_any ⟨#[]⟩ (by decide)
    rwa [show (⟨#[]⟩ : ByteArray).data.toList = [] from rfl, readL_nil] at this
  · rw [if_neg h0, if_neg h0]
    have hok : HeadOk m r a b c := ⟨h.1, h.2.1, h.2.2.1, h.2.2.2.1, by omega, by omega, h.2.2.2.2.2.2.1, h.2.2.2.2.2.2.2.1, h.2.2.2.2.2.2.2.2.1, h.2.2.2.2.2.2.2.2.2⟩
    have := hreads_any ⟨(sealL (headL m r a b c)).toArray⟩ (by simp [ByteArray.size, sealL_length, headL_length])
    rwa [show (⟨(sealL (headL m r a b c)).toArray⟩ : ByteArray).data.toList = sealL (headL m r a b c) from rfl, readL_seal m r a b c hok] at this
theorem hbs_bytes {r a b c : Nat} (h : HeadOk 1 r a b c) (m : Nat) (hm : m + 1 ≤ 1000000) (w : World) :
    Calls Try.prog 7 #[.agg #[.int .u64 ((m : Int) + 1), .int .i64 r, .int .i64 a, .int .i64 b, .int .i64 c]] w fun e w' => e = .returned (.tuple #[.string (hbs r a b c (m + 1)), .int .i64 0]) ∧ Below w.heap.size w w' := by
  have := hbytes_yes (m + 1) r a b c w ⟨h.1, h.2.1, h.2.2.1, h.2.2.2.1, by omega, by omega, h.2.2.2.2.2.2.1, h.2.2.2.2.2.2.2.1, h.2.2.2.2.2.2.2.2.1, h.2.2.2.2.2.2.2.2.2⟩
  unfold hbs
  rw [if_neg (by omega)]
  exact this
theorem newest_even {r a b c : Nat} (h : HeadOk 1 r a b c) (m : Nat) (hm : m + 1 ≤ 1000000) (w : World) :
    Calls Try.prog 13 #[.string (hbs r a b c (m + 1)), .string (hbs r a b c m)] w fun e w' => e = .returned (.tuple #[.agg #[.int .u64 ((m : Int) + 1), .int .i64 r, .int .i64 a, .int .i64 b, .int .i64 c], .int .i64 0, .int .i64 0]) ∧ Below w.heap.size w w' := by
  refine newest_any _ _ _ _ (hrd_reads h (m + 1) hm) (hrd_reads h m (by omega)) w _ ?_
  by_cases h0 : m = 0
  · subst h0; rfl
  · have : newest (hrd r a b c (m + 1)) (hrd r a b c m) = (⟨true, m + 1, r, a, b, c⟩, 0) := by
      rw [hrd_pos _ _ _ _ (m + 1) (by omega), hrd_pos _ _ _ _ m (by omega)]
      unfold newest
      rw [if_pos ⟨rfl, .inr (by show m ≤ m + 1; omega)⟩]
    rw [this]
    rfl
theorem newest_odd {r a b c : Nat} (h : HeadOk 1 r a b c) (m : Nat) (hm : m + 1 ≤ 1000000) (w : World) :
    Calls Try.prog 13 #[.string (hbs r a b c m), .string (hbs r a b c (m + 1))] w fun e w' => e = .returned (.tuple #[.agg #[.int .u64 ((m : Int) + 1), .int .i64 r, .int .i64 a, .int .i64 b, .int .i64 c], .int .i64 1, .int .i64 0]) ∧ Below w.heap.size w w' := by
  refine newest_any _ _ _ _ (hrd_reads h m (by omega)) (hrd_reads h (m + 1) hm) w _ ?_
  have : newest (hrd r a b c m) (hrd r a b c (m + 1)) = (⟨true, m + 1, r, a, b, c⟩, 1) := by
    rw [hrd_pos _ _ _ _ (m + 1) (by omega)]
    unfold newest
    by_cases h0 : m = 0
    · subst h0
      rfl
    · rw [hrd_pos _ _ _ _ m (by omega), if_neg (by rintro ⟨_, e | e⟩; cases e; simp at e; omega), if_pos rfl]
  rw [this]
  rfl
theorem newest_torn0 {r a b c : Nat} (h : HeadOk 1 r a b c) (m : Nat) (h1 : 1 ≤ m) (hm : m ≤ 1000000) (s : ByteArray) (hs : Reads s .none) (w : World) :
    Calls Try.prog 13 #[.string s, .string (hbs r a b c m)] w fun e w' => e = .returned (.tuple #[.agg #[.int .u64 m, .int .i64 r, .int .i64 a, .int .i64 b, .int .i64 c], .int .i64 1, .int .i64 0]) ∧ Below w.heap.size w w' := by
  refine newest_any _ _ _ _ hs (hrd_reads h m hm) w _ ?_
  have : newest .none (hrd r a b c m) = (⟨true, m, r, a, b, c⟩, 1) := by
    rw [hrd_pos _ _ _ _ m h1]
    rfl
  rw [this]
  rfl
theorem newest_torn1 {r a b c : Nat} (h : HeadOk 1 r a b c) (m : Nat) (h1 : 1 ≤ m) (hm : m ≤ 1000000) (s : ByteArray) (hs : Reads s .none) (w : World) :
    Calls Try.prog 13 #[.string (hbs r a b c m), .string s] w fun e w' => e = .returned (.tuple #[.agg #[.int .u64 m, .int .i64 r, .int .i64 a, .int .i64 b, .int .i64 c], .int .i64 0, .int .i64 0]) ∧ Below w.heap.size w w' := by
  refine newest_any _ _ _ _ (hrd_reads h m hm) hs w _ ?_
  have : newest (hrd r a b c m) .none = (⟨true, m, r, a, b, c⟩, 0) := by
    rw [hrd_pos _ _ _ _ m h1]
    unfold newest
    rw [if_pos ⟨rfl, .inl rfl⟩]
  rw [this]
  rfl


set_option maxRecDepth 100000 in
set_option maxHeartbeats 4000000 in
theorem headTurns_no (g : Nat) (r a b c : Int) (hno : ¬ HeadOk 1 r a b c) (n at_ : Int) (M : Nat) (w : World) :
    Calls Try.prog 5 #[headV g r a b c, .int .i64 n, .int .i64 at_, .int .u32 M] w fun e w' => e = .returned (.bool true) ∧ Below w.heap.size w w' := by
  obtain ⟨k, hk, hk1⟩ := modU n 99 (by omega) (by omega)
  have hk2 : k ≤ 98 := by omega
  have O0 := (Own.start w).new 25 #[.int .u64 g, .int .i64 r, .int .i64 a, .int .i64 b, .int .i64 c]
  have AW := Lib.hid awake6
  have EA := eq_arr2
  clear hk1
  have HB : ∀ W : World, Calls Try.prog 7 #[.agg #[.int .u64 1, .int .i64 r, .int .i64 a, .int .i64 b, .int .i64 c]] W fun e w' => e = .returned (.tuple #[.string ⟨#[]⟩, .int .i64 1]) ∧ Below W.heap.size W w' := fun W => hbytes_no 1 r a b c W hno
  have HC := Lib.hid HB
  clear HB hno
  go_enter Try.func5, Try.ntmps5
  go_wp2_with fail
  refine (AW.out _).mono ?_
  rintro e w1 ⟨rfl, R1⟩
  have O1 := (O0.ext R1).new 45 #[.string ⟨#[]⟩, .string ⟨#[]⟩]
  have HH : w.heap.size < w1.heap.size := (O0.ext R1).lt (x := (w.heap.size, _, _)) (by simp; exact ⟨rfl, rfl⟩)
  clear O0 R1 AW
  go_upto_region 5 with fail
  generalize w1.alloc (.cells #[.string ⟨#[]⟩, .string ⟨#[]⟩] 45) = w2 at O1 ⊢
  generalize w1.heap.size = TW at O1 HH ⊢
  go_wp2_with fail
  go_loopw [11] (fun i wr => i = .int .i64 0 ∧ Own w.heap.size w [(TW, 45, #[.string ⟨#[]⟩, .string ⟨#[]⟩]), (w.heap.size, 25, #[.int .u64 g, .int .i64 r, .int .i64 a, .int .i64 b, .int .i64 c])] wr) (fun _ _ => 0)
  case atStart => exact ⟨rfl, O1⟩
  case round =>
    obtain ⟨rfl, O⟩ := hrel
    clear O1
    obtain ⟨X, A, -⟩ := O.all
    have a0 := A.cell 0
    have a1 := A.cell 1
    have a2 := A.cell 2
    have a3 := A.cell 3
    have a4 := A.cell 4
    have f0 := A.frozen 0
    have O2 := O.set (L1 := [(TW, 45, #[.string ⟨#[]⟩, .string ⟨#[]⟩])]) (L2 := []) rfl 0 (.int .u64 1)
    clear X A O
    go_wp2_with fail
    refine (HC.out _).mono ?_
    rintro e w3 ⟨rfl, R3⟩
    have O3 := O2.ext R3
    clear a0 a1 a2 a3 a4 f0 O2 R3
    go_wp2_with fail
    go_ret
    exact ⟨rfl, O3.done⟩

set_option maxRecDepth 100000 in
set_option maxHeartbeats 8000000 in
theorem headTurns_yes (g r a b c : Nat) (hok : HeadOk 1 r a b c) (n at_ : Int) (M : Nat) (hM : M < 4294967296) (w : World) :
    Calls Try.prog 5 #[headV g r a b c, .int .i64 n, .int .i64 at_, .int .u32 M] w fun e w' => e = .returned (.bool true) ∧ Below w.heap.size w w' := by
  obtain ⟨k, hk, hk1⟩ := modU n 99 (by omega) (by omega)
  have hk2 : k ≤ 98 := by omega
  have O0 := (Own.start w).new 25 #[.int .u64 g, .int .i64 r, .int .i64 a, .int .i64 b, .int .i64 c]
  have AW := Lib.hid awake6
  have EA := eq_arr2
  clear hk1
  have hJ : ∃ J : Nat, 2 + (k : Int) = (J : Int) + 1 ∧ 1 ≤ J ∧ J ≤ 99 := ⟨k + 1, by omega, by omega, by omega⟩
  obtain ⟨J, hJ, hJ1, hJ2⟩ := hJ
  have HBy := Lib.hid (hbs_bytes hok)
  have HE := Lib.hid (newest_even hok)
  have HO := Lib.hid (newest_odd hok)
  have HT0 := Lib.hid (newest_torn0 hok)
  have HT1 := Lib.hid (newest_torn1 hok)
  clear hok
  go_enter Try.func5, Try.ntmps5
  go_wp2_with fail
  refine (AW.out _).mono ?_
  rintro e w1 ⟨rfl, R1⟩
  have O1 := (O0.ext R1).new 45 #[.string ⟨#[]⟩, .string ⟨#[]⟩]
  have HH : w.heap.size < w1.heap.size := (O0.ext R1).lt (x := (w.heap.size, _, _)) (by simp; exact ⟨rfl, rfl⟩)
  clear O0 R1 AW
  go_upto_region 5 with fail
  generalize w1.alloc (.cells #[.string ⟨#[]⟩, .string ⟨#[]⟩] 45) = w2 at O1 ⊢
  generalize w1.heap.size = TW at O1 HH ⊢
  go_wp2_with fail
  clear hk hJ
  go_loopw [11] (fun i wr => ∃ (j : Nat) (G : Int), j ≤ J + 1 ∧ i = .int .i64 j ∧ Own w.heap.size w [(TW, 45, #[.string (hbs r a b c ((j + 1) / 2 * 2 - 1)), .string (hbs r a b c (j / 2 * 2))]), (w.heap.size, 25, #[.int .u64 G, .int .i64 r, .int .i64 a, .int .i64 b, .int .i64 c])] wr) (fun i _ => J + 1 - (intOf i).toNat)
  case atStart => exact ⟨0, g, by omega, rfl, O1⟩
  case round =>
    obtain ⟨j, G, hj, rfl, O⟩ := hrel
    clear O1
    by_cases hlt : j < J + 1
    · obtain ⟨X, A, -⟩ := O.all
      have a0 := A.cell 0
      have a1 := A.cell 1
      have a2 := A.cell 2
      have a3 := A.cell 3
      have a4 := A.cell 4
      have f0 := A.frozen 0
      have i1 : (j : Int) < (J : Int) + 1 := by omega
      have i2 : (j : Int) + 1 ≤ 1000 := by omega
      have O2 := O.set (L1 := [(TW, 45, #[.string (hbs r a b c ((j + 1) / 2 * 2 - 1)), .string (hbs r a b c (j / 2 * 2))])]) (L2 := []) rfl 0 (.int .u64 ((j : Int) + 1))
      simp at O2
      clear X A O
      go_wp2_with fail
      refine (HBy.out j (by omega) _).mono ?_
      rintro e w3 ⟨rfl, R3⟩
      have O3 := O2.ext R3
      clear a0 a1 a2 a3 a4 f0 O2 R3
      by_cases hpar : j % 2 = 0
      · have hr : (j : Int) % 2 = 0 := by omega
        have hm : j / 2 * 2 = j := by omega
        rw [hm] at O3
        have e0 : (j + 1 + 1) / 2 * 2 - 1 = j + 1 := by omega
        have e1 : (j + 1) / 2 * 2 = j := by omega
        have E0 := Lib.hid e0
        have E1 := Lib.hid e1
        clear e0 e1 hm
        obtain ⟨X, A, -⟩ := O3.all
        have x0 := X.cell 0
        have x1 := X.cell 1
        have fx := X.frozen 0
        have O4 := O3.set (L1 := []) (L2 := [(w.heap.size, 25, #[.int .u64 ((j : Int) + 1), .int .i64 r, .int .i64 a, .int .i64 b, .int .i64 c])]) rfl 0 (.string (hbs r a b c (j + 1)))
        simp at O4
        clear A X O3
        go_wp2_with fail
        refine (HE.out j (by omega) _).mono ?_
        rintro e w5 ⟨rfl, R5⟩
        have O5 := (O4.ext R5).new 25 #[.int .u64 ((j : Int) + 1), .int .i64 r, .int .i64 a, .int .i64 b, .int .i64 c]
        clear O4 R5 x0 x1 fx
        go_upto_region 14 with fail
        generalize w5.alloc (.cells #[.int .u64 ((j : Int) + 1), .int .i64 r, .int .i64 a, .int .i64 b, .int .i64 c] 25) = w6 at O5 ⊢
        obtain ⟨N, X, A, -⟩ := O5.all
        have a0 := A.cell 0
        have a1 := A.cell 1
        have a2 := A.cell 2
        have a3 := A.cell 3
        have a4 := A.cell 4
        have n0 := N.cell 0
        have n1 := N.cell 1
        have n2 := N.cell 2
        have n3 := N.cell 3
        have n4 := N.cell 4
        have O6 := O5.tail
        clear A X N O5
        go_wp2_with fail
        go_roundw
        case rel => exact ⟨j + 1, (j : Int) + 1, by omega, by go_num, by rw [E0.out, E1.out]; exact O6⟩
        case measure => simp [intOf]; omega
      · have hr : (j : Int) % 2 = 1 := by omega
        have hm : (j + 1) / 2 * 2 - 1 = j := by omega
        rw [hm] at O3
        have e0 : (j + 1 + 1) / 2 * 2 - 1 = j := by omega
        have e1 : (j + 1) / 2 * 2 = j + 1 := by omega
        have E0 := Lib.hid e0
        have E1 := Lib.hid e1
        clear e0 e1 hm
        obtain ⟨X, A, -⟩ := O3.all
        have x0 := X.cell 0
        have x1 := X.cell 1
        have fx := X.frozen 1
        have O4 := O3.set (L1 := []) (L2 := [(w.heap.size, 25, #[.int .u64 ((j : Int) + 1), .int .i64 r, .int .i64 a, .int .i64 b, .int .i64 c])]) rfl 1 (.string (hbs r a b c (j + 1)))
        simp at O4
        clear A X O3
        go_wp2_with fail
        refine (HO.out j (by omega) _).mono ?_
        rintro e w5 ⟨rfl, R5⟩
        have O5 := (O4.ext R5).new 25 #[.int .u64 ((j : Int) + 1), .int .i64 r, .int .i64 a, .int .i64 b, .int .i64 c]
        clear O4 R5 x0 x1 fx
        go_upto_region 14 with fail
        generalize w5.alloc (.cells #[.int .u64 ((j : Int) + 1), .int .i64 r, .int .i64 a, .int .i64 b, .int .i64 c] 25) = w6 at O5 ⊢
        obtain ⟨N, X, A, -⟩ := O5.all
        have a0 := A.cell 0
        have a1 := A.cell 1
        have a2 := A.cell 2
        have a3 := A.cell 3
        have a4 := A.cell 4
        have n0 := N.cell 0
        have n1 := N.cell 1
        have n2 := N.cell 2
        have n3 := N.cell 3
        have n4 := N.cell 4
        have O6 := O5.tail
        clear A X N O5
        go_wp2_with fail
        go_roundw
        case rel => exact ⟨j + 1, (j : Int) + 1, by omega, by go_num, by rw [E0.out, E1.out]; exact O6⟩
        case measure => simp [intOf]; omega
    · obtain rfl : j = J + 1 := by omega
      clear HBy HE HO hj hlt
      by_cases h0 : M = 0
      · subst h0
        go_wp2_with fail
        go_ret
        exact ⟨rfl, O.done⟩
      · have hne : ((M : Int) == 0) = false := by simp; exact h0
        by_cases hpar : J % 2 = 0
        · have hr : (J : Int) % 2 = 0 := by omega
          have hr2 : ((J : Int) + 1) % 2 = 1 := by omega
          have e0 : (J + 1 + 1) / 2 * 2 - 1 = J + 1 := by omega
          have e1 : (J + 1) / 2 * 2 = J := by omega
          rw [e0, e1] at O
          clear e0 e1
          obtain ⟨X, A, -⟩ := O.all
          have x0 := X.cell 0
          have x1 := X.cell 1
          have hTT : TW < wr.heap.size := X.lt
          clear A X
          go_upto_region 18 with fail
          obtain ⟨km, hkm, hkm1⟩ := modU at_ 13 (by omega) (by omega)
          have hkm2 : km ≤ 12 := by omega
          have X1 := readL_turned (J + 1) r a b c km M hkm2 hM h0
          have l1 : (sealL (headL (J + 1) r a b c)).length = 16 := by rw [sealL_length, headL_length]
          have hb : hbs r a b c (J + 1) = ⟨(sealL (headL (J + 1) r a b c)).toArray⟩ := by unfold hbs; rw [if_neg (by omega)]
          generalize sealL (headL (J + 1) r a b c) = L1 at X1 l1 hb
          rw [hb] at O x0
          clear hb
          obtain ⟨c1, hc1, hc2, hcvA⟩ := conv_row ⟨L1.toArray⟩ wr (by simp [ByteArray.size, l1, maxLen])
          have s1 : (⟨L1.toArray⟩ : ByteArray).size = 16 := by simp [ByteArray.size, l1]
          rw [s1] at hc1 hcvA
          obtain ⟨w4, hw4⟩ : ∃ W, W = (wr.alloc (.cells (rowOf L1 c1) 5 (c1, c1 + 1))).drew := ⟨_, rfl⟩
          have B1 : Bytes w4 wr.heap.size L1 c1 := by rw [hw4]; exact Bytes.new_ (w := wr.drew)
          have O4 : Own w.heap.size w [(TW, 45, #[.string ⟨L1.toArray⟩, .string (hbs r a b c J)]), (w.heap.size, 25, #[.int .u64 G, .int .i64 r, .int .i64 a, .int .i64 b, .int .i64 c])] w4 := by rw [hw4]; exact (O.other _).drew
          have hcv1 : (convert 9 42 (.string ⟨L1.toArray⟩)).run Try.prog wr = .ok (.slice (some ⟨wr.heap.size, 0, none⟩) 16 c1) w4 := by rw [hw4]; exact hcvA
          clear hw4 hcvA s1 hkm1
          go_upto_region 20 with fail
          generalize wr.heap.size = g1 at B1 hTT ⊢
          clear hcv1 O x0 x1
          go_wp2_with fail
          go_loopw [19] (fun i wr => ∃ j : Nat, j ≤ 4 ∧ i = .int .i64 j ∧ Bytes wr g1 (turnTo L1 km M j) c1 ∧ Own w.heap.size w [(TW, 45, #[.string ⟨L1.toArray⟩, .string (hbs r a b c J)]), (w.heap.size, 25, #[.int .u64 G, .int .i64 r, .int .i64 a, .int .i64 b, .int .i64 c])] wr) (fun i _ => 4 - (intOf i).toNat)
          case atStart => exact ⟨0, by omega, rfl, B1, O4⟩
          case round =>
            obtain ⟨j, hj, rfl, hB1, hO⟩ := hrel
            clear B1 O4
            have hlen1 := Lib.hid (show (turnTo L1 km M j).length = 16 by rw [turnTo_length, l1])
            by_cases hlt : j < 4
            · have hd : turnTo L1 km M (j + 1) = (turnTo L1 km M j).set (km + j) ((turnTo L1 km M j).getD (km + j) 0 ^^^ UInt8.ofNat (M / 256 ^ j)) := rfl
              have hcell := hB1.cell (i := km + j) (by rw [hlen1.out]; omega)
              have hfz := hB1.frozen (i := km + j) (by omega)
              have hx := xor_turn6 ((turnTo L1 km M j).getD (km + j) 0) M j
              have hset := hB1.set_ (i := km + j) (by rw [hlen1.out]; omega) ((turnTo L1 km M j).getD (km + j) 0 ^^^ UInt8.ofNat (M / 256 ^ j))
              rw [← hd] at hset
              have hsetO := hO.setfar (p := ⟨g1, km + j, none⟩) (by simp; omega) (by simp; omega) (.int .u8 (((turnTo L1 km M j).getD (km + j) 0 ^^^ UInt8.ofNat (M / 256 ^ j)).toNat : Int))
              generalize (turnTo L1 km M j).getD (km + j) 0 = x at hcell hx hset hsetO
              generalize x ^^^ UInt8.ofNat (M / 256 ^ j) = y at hx hset hsetO
              clear hd
              generalize hL : turnTo L1 km M (j + 1) = L1' at hset
              have HL1 := Lib.hid hL
              clear hL
              have Hset := Lib.hid hset
              have HsetO := Lib.hid hsetO
              have i1 : ((km : Int) + j) < 16 := by omega
              clear hset hsetO hB1 hO
              go_wp2_with fail
              go_region
              all_goals
                go_wp2_with fail
                go_roundw
                case rel => exact ⟨j + 1, by omega, by go_num, by rw [HL1.out]; exact Hset.out.drew, HsetO.out.drew⟩
                case measure => simp [intOf]; omega
            · obtain rfl : j = 4 := by omega
              have t1 : (turnTo L1 km M 4).length = 16 := by rw [turnTo_length, l1]
              generalize turnTo L1 km M 4 = T1 at t1 X1 hB1
              have R1 : Reads ⟨T1.toArray⟩ .none := by have := hreads_any ⟨T1.toArray⟩ (by simp [ByteArray.size, t1]); simpa [X1] using this
              have HN := Lib.hid (fun W => HT0.out J hJ1 (by omega) ⟨T1.toArray⟩ R1 W)
              have hcv1 := hB1.conv c1 16 t1
              obtain ⟨X, A, -⟩ := hO.all
              have x0 := X.cell 0
              have x1 := X.cell 1
              have fx := X.frozen 0
              have O5 := hO.set (L1 := []) (L2 := [(w.heap.size, 25, #[.int .u64 G, .int .i64 r, .int .i64 a, .int .i64 b, .int .i64 c])]) rfl 0 (.string ⟨T1.toArray⟩)
              simp at O5
              clear X1 R1 hO X A hB1
              go_wp2_with fail
              refine (HN.out _).mono ?_
              rintro e w7 ⟨rfl, R7⟩
              have O7 := (O5.ext R7).new 25 #[.int .u64 J, .int .i64 r, .int .i64 a, .int .i64 b, .int .i64 c]
              clear hcv1 O5 R7 x0 x1 fx
              go_upto_region 26 with fail
              generalize w7.alloc (.cells #[.int .u64 J, .int .i64 r, .int .i64 a, .int .i64 b, .int .i64 c] 25) = w8 at O7 ⊢
              obtain ⟨N, -⟩ := O7.all
              have n0 := N.cell 0
              go_wp2_with fail
              go_ret
              exact ⟨rfl, O7.done⟩
        · have hr : (J : Int) % 2 = 1 := by omega
          have hr2 : ((J : Int) + 1) % 2 = 0 := by omega
          have e0 : (J + 1 + 1) / 2 * 2 - 1 = J := by omega
          have e1 : (J + 1) / 2 * 2 = J + 1 := by omega
          rw [e0, e1] at O
          clear e0 e1
          obtain ⟨X, A, -⟩ := O.all
          have x0 := X.cell 0
          have x1 := X.cell 1
          have hTT : TW < wr.heap.size := X.lt
          clear A X
          go_upto_region 18 with fail
          obtain ⟨km, hkm, hkm1⟩ := modU at_ 13 (by omega) (by omega)
          have hkm2 : km ≤ 12 := by omega
          have X1 := readL_turned (J + 1) r a b c km M hkm2 hM h0
          have l1 : (sealL (headL (J + 1) r a b c)).length = 16 := by rw [sealL_length, headL_length]
          have hb : hbs r a b c (J + 1) = ⟨(sealL (headL (J + 1) r a b c)).toArray⟩ := by unfold hbs; rw [if_neg (by omega)]
          generalize sealL (headL (J + 1) r a b c) = L1 at X1 l1 hb
          rw [hb] at O x1
          clear hb
          obtain ⟨c1, hc1, hc2, hcvA⟩ := conv_row ⟨L1.toArray⟩ wr (by simp [ByteArray.size, l1, maxLen])
          have s1 : (⟨L1.toArray⟩ : ByteArray).size = 16 := by simp [ByteArray.size, l1]
          rw [s1] at hc1 hcvA
          obtain ⟨w4, hw4⟩ : ∃ W, W = (wr.alloc (.cells (rowOf L1 c1) 5 (c1, c1 + 1))).drew := ⟨_, rfl⟩
          have B1 : Bytes w4 wr.heap.size L1 c1 := by rw [hw4]; exact Bytes.new_ (w := wr.drew)
          have O4 : Own w.heap.size w [(TW, 45, #[.string (hbs r a b c J), .string ⟨L1.toArray⟩]), (w.heap.size, 25, #[.int .u64 G, .int .i64 r, .int .i64 a, .int .i64 b, .int .i64 c])] w4 := by rw [hw4]; exact (O.other _).drew
          have hcv1 : (convert 9 42 (.string ⟨L1.toArray⟩)).run Try.prog wr = .ok (.slice (some ⟨wr.heap.size, 0, none⟩) 16 c1) w4 := by rw [hw4]; exact hcvA
          clear hw4 hcvA s1 hkm1
          go_upto_region 20 with fail
          generalize wr.heap.size = g1 at B1 hTT ⊢
          clear hcv1 O x0 x1
          go_wp2_with fail
          go_loopw [19] (fun i wr => ∃ j : Nat, j ≤ 4 ∧ i = .int .i64 j ∧ Bytes wr g1 (turnTo L1 km M j) c1 ∧ Own w.heap.size w [(TW, 45, #[.string (hbs r a b c J), .string ⟨L1.toArray⟩]), (w.heap.size, 25, #[.int .u64 G, .int .i64 r, .int .i64 a, .int .i64 b, .int .i64 c])] wr) (fun i _ => 4 - (intOf i).toNat)
          case atStart => exact ⟨0, by omega, rfl, B1, O4⟩
          case round =>
            obtain ⟨j, hj, rfl, hB1, hO⟩ := hrel
            clear B1 O4
            have hlen1 := Lib.hid (show (turnTo L1 km M j).length = 16 by rw [turnTo_length, l1])
            by_cases hlt : j < 4
            · have hd : turnTo L1 km M (j + 1) = (turnTo L1 km M j).set (km + j) ((turnTo L1 km M j).getD (km + j) 0 ^^^ UInt8.ofNat (M / 256 ^ j)) := rfl
              have hcell := hB1.cell (i := km + j) (by rw [hlen1.out]; omega)
              have hfz := hB1.frozen (i := km + j) (by omega)
              have hx := xor_turn6 ((turnTo L1 km M j).getD (km + j) 0) M j
              have hset := hB1.set_ (i := km + j) (by rw [hlen1.out]; omega) ((turnTo L1 km M j).getD (km + j) 0 ^^^ UInt8.ofNat (M / 256 ^ j))
              rw [← hd] at hset
              have hsetO := hO.setfar (p := ⟨g1, km + j, none⟩) (by simp; omega) (by simp; omega) (.int .u8 (((turnTo L1 km M j).getD (km + j) 0 ^^^ UInt8.ofNat (M / 256 ^ j)).toNat : Int))
              generalize (turnTo L1 km M j).getD (km + j) 0 = x at hcell hx hset hsetO
              generalize x ^^^ UInt8.ofNat (M / 256 ^ j) = y at hx hset hsetO
              clear hd
              generalize hL : turnTo L1 km M (j + 1) = L1' at hset
              have HL1 := Lib.hid hL
              clear hL
              have Hset := Lib.hid hset
              have HsetO := Lib.hid hsetO
              have i1 : ((km : Int) + j) < 16 := by omega
              clear hset hsetO hB1 hO
              go_wp2_with fail
              go_region
              all_goals
                go_wp2_with fail
                go_roundw
                case rel => exact ⟨j + 1, by omega, by go_num, by rw [HL1.out]; exact Hset.out.drew, HsetO.out.drew⟩
                case measure => simp [intOf]; omega
            · obtain rfl : j = 4 := by omega
              have t1 : (turnTo L1 km M 4).length = 16 := by rw [turnTo_length, l1]
              generalize turnTo L1 km M 4 = T1 at t1 X1 hB1
              have R1 : Reads ⟨T1.toArray⟩ .none := by have := hreads_any ⟨T1.toArray⟩ (by simp [ByteArray.size, t1]); simpa [X1] using this
              have HN := Lib.hid (fun W => HT1.out J hJ1 (by omega) ⟨T1.toArray⟩ R1 W)
              have hcv1 := hB1.conv c1 16 t1
              obtain ⟨X, A, -⟩ := hO.all
              have x0 := X.cell 0
              have x1 := X.cell 1
              have fx := X.frozen 1
              have O5 := hO.set (L1 := []) (L2 := [(w.heap.size, 25, #[.int .u64 G, .int .i64 r, .int .i64 a, .int .i64 b, .int .i64 c])]) rfl 1 (.string ⟨T1.toArray⟩)
              simp at O5
              clear X1 R1 hO X A hB1
              go_wp2_with fail
              refine (HN.out _).mono ?_
              rintro e w7 ⟨rfl, R7⟩
              have O7 := (O5.ext R7).new 25 #[.int .u64 J, .int .i64 r, .int .i64 a, .int .i64 b, .int .i64 c]
              clear hcv1 O5 R7 x0 x1 fx
              go_upto_region 26 with fail
              generalize w7.alloc (.cells #[.int .u64 J, .int .i64 r, .int .i64 a, .int .i64 b, .int .i64 c] 25) = w8 at O7 ⊢
              obtain ⟨N, -⟩ := O7.all
              have n0 := N.cell 0
              go_wp2_with fail
              go_ret
              exact ⟨rfl, O7.done⟩

theorem headTurns_walk (w : World) (v0 v1 v2 v3 : Value) (h0 : Arg Try.prog w 25 v0) (h1 : Arg Try.prog w 3 v1) (h2 : Arg Try.prog w 3 v2) (h3 : Arg Try.prog w 41 v3) :
    Calls Try.prog 5 #[v0, v1, v2, v3] w fun e w' => e = .returned (.bool true) ∧ Below w.heap.size w w' := by
  obtain ⟨g, r, a, b, c, rfl, _⟩ := arg_head h0
  obtain ⟨n, rfl, _⟩ := arg_int Try.underlying3 h1
  obtain ⟨at_, rfl, _⟩ := arg_int Try.underlying3 h2
  obtain ⟨m, rfl, hm⟩ := arg_int Try.underlying41 h3
  have hb := bounds_u32 hm
  obtain ⟨M, rfl⟩ : ∃ n : Nat, m = n := ⟨m.toNat, by omega⟩
  by_cases hok : HeadOk 1 r a b c
  · obtain ⟨r, rfl⟩ : ∃ n : Nat, r = n := ⟨r.toNat, by omega⟩
    obtain ⟨a, rfl⟩ : ∃ n : Nat, a = n := ⟨a.toNat, by omega⟩
    obtain ⟨b, rfl⟩ : ∃ n : Nat, b = n := ⟨b.toNat, by omega⟩
    obtain ⟨c, rfl⟩ : ∃ n : Nat, c = n := ⟨c.toNat, by omega⟩
    exact headTurns_yes g r a b c hok n at_ M (by omega) w
  · exact headTurns_no g r a b c hok n at_ M w
end Go.Proofs.Ytencbdcfcpohaaa
