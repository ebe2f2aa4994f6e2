/- leaf: Read. -/
import Derived.Test.YtakkhglbdljfiaaGreatDoorKStoreExact08
import Derived.Test.YtakkhglbdljfiaaGreatDoorKStoreExact02
import Derived.Test.YtakkhglbdljfiaaGreatDoorKStoreExact00
namespace Go.Proofs.YtakkhglbdljfiaaGreatDoor
attribute [local simp] BigFrame.eval_const BigFrame.eval_global BigFrame.eval_func
set_option linter.unusedVariables false
set_option linter.unusedSimpArgs false
open Go.RowKit

abbrev rdB (b : Nat) (st : List UInt8 × Bool) : BlkD := (b, 170, rdr ⟨st.1.toArray⟩ st.2)
theorem own_of {H : Nat} {A w : World} {L : List BlkD} (h : Own H A L w) (s : ByteArray) :
    Calls Tryz.prog 96 #[.string s] w fun e w' => e = .returned (.pointer (some ⟨w.heap.size, 0, none⟩)) ∧ Own H A (rdB w.heap.size (s.data.toList, false) :: L) w' ∧ w'.heap.size = w.heap.size + 1 := by
  go_enter Tryz.func96, Tryz.ntmps96
  go_wp2_with fail
  go_ret
  refine ⟨rfl, ?_, by simp⟩
  have := h.new 170 (rdr s false)
  unfold rdB
  rw [Z2o]
  exact this
theorem Z6s {H : Nat} {A w : World} {L L1 L2 : List BlkD} {b : Nat} {st : List UInt8 × Bool} (h : Own H A L w) (hL : L = L1 ++ rdB b st :: L2) (k : Nat) (h1 : 1 ≤ k) (h8 : k ≤ 8) (hs : st.1.length ≤ 1000000) (n : Nat) (st' : List UInt8 × Bool) (hg : getN st k = (n, st')) :
    Calls Tryz.prog 97 #[.pointer (some ⟨b, 0, none⟩), .int .i64 k] w fun e w' => e = .returned (.int .u64 n) ∧ Own H A (L1 ++ rdB b st' :: L2) w' ∧ KeepT 170 w w' := by
  have hb : Blk w b 170 (rdr ⟨st.1.toArray⟩ st.2) := h.all.mem (x := rdB b st) (by rw [hL]; simp)
  refine (get_any b st k w h1 h8 hb hs).mono ?_
  rw [hg]
  rintro e w' ⟨rfl, hU⟩
  exact ⟨rfl, h.put hL _ hU.grown hU.blk, KeepT.of_upd hb hU.grown⟩
theorem Z3e {H : Nat} {A w : World} {L L1 L2 : List BlkD} {el : TypeId} {c m : Nat} {v : Value} {xs : List Value} {b : Nat} {st : List UInt8 × Bool} (h : ORow H A L el c v m xs w) (hL : L = L1 ++ rdB b st :: L2) (k : Nat) (h1 : 1 ≤ k) (h8 : k ≤ 8) (hs : st.1.length ≤ 1000000) (n : Nat) (st' : List UInt8 × Bool) (hg : getN st k = (n, st')) :
    Calls Tryz.prog 97 #[.pointer (some ⟨b, 0, none⟩), .int .i64 k] w fun e w' => e = .returned (.int .u64 n) ∧ ORow H A (L1 ++ rdB b st' :: L2) el c v m xs w' ∧ KeepT 170 w w' := by
  have hb : Blk w b 170 (rdr ⟨st.1.toArray⟩ st.2) := h.own.all.mem (x := rdB b st) (by rw [hL]; simp)
  refine (get_any b st k w h1 h8 hb hs).mono ?_
  rw [hg]
  rintro e w' ⟨rfl, hU⟩
  exact ⟨rfl, h.put hL _ hU.grown hU.blk, KeepT.of_upd hb hU.grown⟩
/-- A node that the call has: its block. -/
abbrev lfB (X : Nat) (lv : Int) (v : Value) : BlkD := (X, 47, #[.int .i64 lv, v])

theorem Z14 {R : Ending → World → Prop} {ac : Act} {w : World} {X : Nat} {lv x : Int} {v : Value} (h2 : ac.tmps[2]?.getD undef = .pointer (some ⟨X, 0, none⟩)) (h3 : ac.tmps[3]?.getD undef = .int .i64 x) (hd : ac.defers = [])
    (hF : Blk w X 47 #[.int .i64 lv, v]) (hR : R (.returned (.tuple #[.agg #[.int .i64 lv, v], .int .i64 x])) w) : bodyPost Tryz.prog Tryz.f61 R .ret ac w := by
  obtain ⟨tm, df⟩ := ac
  simp only at h2 h3 hd
  have p0 := hF.cell 0
  have p1 := hF.cell 1
  exact bodyPost_ret (v := .tuple #[.agg #[.int .i64 lv, v], .int .i64 x]) (by simp [results, Tryz.results61, go_sem, h2, h3, p0, p1]) hd hR
theorem lread_shut (s : ByteArray) (w : World) (h : (∀ W : World, Calls Tryz.prog 95 #[.string s] W fun e w' => e = .returned (.tuple #[.string ⟨#[]⟩, .bool false]) ∧ Ext W w') ∨ (s.size ≠ 256 ∧ ∃ T, ∀ W : World, Calls Tryz.prog 95 #[.string s] W fun e w' => e = .returned (.tuple #[.string T, .bool true]) ∧ Ext W w')) :
    Calls Tryz.prog 61 #[.string s] w fun e w' => e = .returned (.tuple #[.agg #[.int .i64 0, .slice none 0 0], .int .i64 3]) ∧ Ext w w' := by
  have O0 := (Own.start w).new 47 #[.int .i64 0, .slice none 0 0]
  rcases h with h | ⟨hs, T, h⟩
  · have H := Lib.hid h
    clear h
    go_enter Tryz.func61, Tryz.ntmps61
    go_wp2_with fail
    refine (H.out _).mono ?_
    rintro e w1 ⟨rfl, R1⟩
    have O1 := O0.ext R1
    clear O0 R1 H
    have hb := O1.all.1
    have q0 := hb.cell 0
    have q1 := hb.cell 1
    have f0 := hb.frozen 0
    have f1 := hb.frozen 1
    go_wp2_with fail
    have O2 := (O1.set (L1 := []) rfl 0 (.int .i64 0)).set (L1 := []) rfl 1 (.slice none 0 0)
    exact Z14 (lv := 0) (v := .slice none 0 0) (x := 3) rfl rfl rfl O2.all.1 ⟨rfl, O2.below⟩
  · have H := Lib.hid h
    have hs1 : ((s.size : Int) != 256) = true := by simp; omega
    clear h
    go_enter Tryz.func61, Tryz.ntmps61
    go_wp2_with fail
    refine (H.out _).mono ?_
    rintro e w1 ⟨rfl, R1⟩
    have O1 := O0.ext R1
    clear O0 R1 H
    have hb := O1.all.1
    have q0 := hb.cell 0
    have q1 := hb.cell 1
    have f0 := hb.frozen 0
    have f1 := hb.frozen 1
    go_wp2_with fail
    have O2 := (O1.set (L1 := []) rfl 0 (.int .i64 0)).set (L1 := []) rfl 1 (.slice none 0 0)
    exact Z14 (lv := 0) (v := .slice none 0 0) (x := 3) rfl rfl rfl O2.all.1 ⟨rfl, O2.below⟩
/-- What the reader has behind i bytes. -/
def rst (l : List UInt8) (i : Nat) : List UInt8 × Bool := ((l.take 252).drop i, false)
theorem Z0s (l : List UInt8) (i : Nat) : (rst l i).1.length ≤ 252 := by simp [rst]; omega
theorem Z1y (l : List UInt8) (hl : l.length = 256) (i k : Nat) (h : i + k ≤ 252) : getN (rst l i) k = (numL ((l.drop i).take k), rst l (i + k)) := by
  unfold getN rst
  have h1 : k ≤ ((l.take 252).drop i).length := by simp; omega
  rw [if_pos h1, List.drop_drop, List.drop_take, List.take_take, Nat.min_eq_left (by omega)]
theorem Z3m (l : List UInt8) (hl : l.length = 256) (i : Nat) (h : i < 252) : getN (rst l i) 1 = ((l.getD i 0).toNat, rst l (i + 1)) := by
  rw [Z1y l hl i 1 (by omega)]
  have hd : (l.drop i).take 1 = [l.getD i 0] := by
    rw [List.drop_eq_getElem_cons (by omega), List.take_succ_cons, List.take_zero]
    simp [List.getD, show i < l.length by omega]
  rw [hd]
  simp [numL]
/-- What the code asks of a page that opens. -/
def readC (l : List UInt8) : Bool := decide (l.getD 0 0 = 76 ∧ l.getD 3 0 = 0 ∧ (l.getD 2 0).toNat ≤ 15) && ((rst l (4 + 16 * cntAt l)).1.all (· == 0) && goodB (lvAt l : Nat) (pairsAt l (cntAt l)))

theorem infoPair : (Tryz.prog.info? 98).map (fun i => (i.zero, i.size, i.bytes)) = some (some (.agg #[.int .u64 0, .int .u64 0]), 2, 16) := by kernel_rfl
theorem Z3c {H : Nat} {A w : World} {L L1 L2 : List BlkD} {el : TypeId} {c m : Nat} {v : Value} {xs : List Value} {b : Nat} {st : List UInt8 × Bool} (h : ORow H A L el c v m xs w) (hL : L = L1 ++ rdB b st :: L2) (hs : st.1.length ≤ 1000000) (Z : Bool) (hz : st.1.all (· == 0) = Z) :
    Calls Tryz.prog 98 #[.pointer (some ⟨b, 0, none⟩)] w fun e w' => e = .returned (.bool Z) ∧ ORow H A (L1 ++ rdB b ([], st.2) :: L2) el c v m xs w' := by
  have hb : Blk w b 170 (rdr ⟨st.1.toArray⟩ st.2) := h.own.all.mem (x := rdB b st) (by rw [hL]; simp)
  refine (u_zeros hb hs).mono ?_
  rw [hz]
  rintro e w' ⟨rfl, hU⟩
  exact ⟨rfl, h.put hL _ hU.grown hU.blk⟩
theorem Z2t (bs : List UInt8) (j : Nat) : (pairsAt bs j).flatMap pairC ++ [.int .u64 (pairAt bs j).1, .int .u64 (pairAt bs j).2] = (pairsAt bs (j + 1)).flatMap pairC := by
  rw [Z4d, List.flatMap_append]
  rfl
theorem Z3d {H : Nat} {A w : World} {L2 : List BlkD} {x : BlkD} {el : TypeId} {c m : Nat} {v : Value} {xs : List Value} {b : Nat} {l : Nat → Bool} {st1 st2 : List UInt8 × Bool} {n : Nat} (h : ORow H A (x :: rdB b (if l 4 = true then st2 else st1) :: L2) el c v m xs w) (hl : l 4 = false) (hs : st1.1.length ≤ 1000000) (hg : getN st1 8 = (n, st2)) :
    Calls Tryz.prog 97 #[.pointer (some ⟨b, 0, none⟩), .int .i64 8] w fun e w' => e = .returned (.int .u64 n) ∧ KeepT 170 w w' ∧ ORow H A (x :: rdB b (if upd l 4 4 = true then st2 else st1) :: L2) el c v m xs w' := by
  rw [hl] at h
  refine (Z3e (L1 := [x]) (st := st1) h rfl 8 (by decide) (by decide) hs _ _ hg).mono ?_
  rintro e w' ⟨rfl, h1, h2⟩
  exact ⟨rfl, h2, h1⟩
set_option maxRecDepth 100000 in
set_option maxHeartbeats 8000000 in
theorem lread_open (s T : ByteArray) (wa : World) (h : ∀ W : World, Calls Tryz.prog 95 #[.string s] W fun e w' => e = .returned (.tuple #[.string T, .bool true]) ∧ Ext W w') (hs : s.size = 256) (bs : List UInt8) (hl : bs.length = 256) (hT : T.data.toList = bs.take 252) :
    Calls Tryz.prog 61 #[.string s] wa fun e w' => Ext wa w' ∧ (readC bs = false → e = .returned (.tuple #[.agg #[.int .i64 0, .slice none 0 0], .int .i64 3])) ∧
      (readC bs = true → ∃ B cap, e = .returned (.tuple #[.agg #[.int .i64 (lvAt bs : Nat), .slice B (cntAt bs) cap], .int .i64 0]) ∧ cntAt bs ≤ cap ∧ cap ≤ maxLen ∧ Row w' B 2 pairC (pairsAt bs (cntAt bs))) := by
  obtain ⟨k0, hk0⟩ : ∃ k, (bs.getD 0 0).toNat = k := ⟨_, rfl⟩
  obtain ⟨lv, hlv⟩ : ∃ k, (bs.getD 1 0).toNat = k := ⟨_, rfl⟩
  obtain ⟨n2, hn2⟩ : ∃ k, (bs.getD 2 0).toNat = k := ⟨_, rfl⟩
  obtain ⟨k3, hk3⟩ : ∃ k, (bs.getD 3 0).toNat = k := ⟨_, rfl⟩
  obtain ⟨N, hN⟩ : ∃ N, cntAt bs = N := ⟨_, rfl⟩
  have hNn : N = min n2 15 := by rw [← hN, ← hn2]; rfl
  have g0 : getN (rst bs 0) 1 = (k0, rst bs 1) := by rw [← hk0]; exact Z3m bs hl 0 (by decide)
  have g1 : getN (rst bs 1) 1 = (lv, rst bs 2) := by rw [← hlv]; exact Z3m bs hl 1 (by decide)
  have g2 : getN (rst bs 2) 1 = (n2, rst bs 3) := by rw [← hn2]; exact Z3m bs hl 2 (by decide)
  have g3 : getN (rst bs 3) 1 = (k3, rst bs 4) := by rw [← hk3]; exact Z3m bs hl 3 (by decide)
  have b0 : k0 < 256 := by rw [← hk0]; exact UInt8.toNat_lt _
  have b1 : lv < 256 := by rw [← hlv]; exact UInt8.toNat_lt _
  have b2 : n2 < 256 := by rw [← hn2]; exact UInt8.toNat_lt _
  have b3 : k3 < 256 := by rw [← hk3]; exact UInt8.toNat_lt _
  obtain ⟨C, hC⟩ : ∃ C, readC bs = C := ⟨_, rfl⟩
  have hCC : C = (decide (k0 = 76 ∧ k3 = 0 ∧ n2 ≤ 15) && ((rst bs (4 + 16 * N)).1.all (· == 0) && goodB (lv : Nat) (pairsAt bs N))) := by
    rw [← hC, ← hN, ← hk0, ← hk3, ← hn2, ← hlv]
    unfold readC lvAt
    have e0 : (bs.getD 0 0 = 76) ↔ (bs.getD 0 0).toNat = 76 := by rw [← UInt8.toNat_inj]; rfl
    have e3 : (bs.getD 3 0 = 0) ↔ (bs.getD 3 0).toNat = 0 := by rw [← UInt8.toNat_inj]; rfl
    simp only [e0, e3]
  have hlvv : lvAt bs = lv := hlv
  rw [hC, hN, hlvv]
  have HCo := Lib.hid hCC
  have H := Lib.hid h
  have hs1 : ((s.size : Int) != 256) = false := by simp; omega
  clear h hk0 hlv hn2 hk3 hC hCC hlvv hN
  have O0 := (Own.start wa).new 47 #[.int .i64 0, .slice none 0 0]
  go_enter Tryz.func61, Tryz.ntmps61
  go_wp2_with fail
  refine (H.out _).mono ?_
  rintro e w1 ⟨rfl, R1⟩
  have O1 := O0.ext R1
  clear O0 R1 H
  go_wp2_with fail
  refine (own_of O1 T).mono ?_
  rintro e w2 ⟨rfl, O2, -⟩
  rw [hT] at O2
  clear O1 hT
  have O2 : Own wa.heap.size wa [rdB w1.heap.size (rst bs 0), lfB wa.heap.size 0 (.slice none 0 0)] w2 := O2
  have HG0 := Lib.hid g0
  have HG1 := Lib.hid g1
  have HG2 := Lib.hid g2
  have HG3 := Lib.hid g3
  have hr1 : (rst bs 1).1.length ≤ 1000000 := by have := Z0s bs 1; omega
  have hr2 : (rst bs 2).1.length ≤ 1000000 := by have := Z0s bs 2; omega
  have hr3 : (rst bs 3).1.length ≤ 1000000 := by have := Z0s bs 3; omega
  clear g0 g1 g2 g3
  go_wp2_with fail
  refine (Z6s O2 (L1 := []) rfl 1 (by decide) (by decide) (by have := Z0s bs 0; omega) _ _ HG0.out).mono ?_
  rintro e w3 ⟨rfl, O3, -⟩
  have O3 : Own wa.heap.size wa [rdB w1.heap.size (rst bs 1), lfB wa.heap.size 0 (.slice none 0 0)] w3 := O3
  clear O2
  go_wp2_with fail
  refine (Z6s O3 (L1 := []) rfl 1 (by decide) (by decide) hr1 _ _ HG1.out).mono ?_
  rintro e w4 ⟨rfl, O4, -⟩
  clear O3
  have O4 : Own wa.heap.size wa [rdB w1.heap.size (rst bs 2), lfB wa.heap.size 0 (.slice none 0 0)] w4 := O4
  have hw1 : IntKind.i64.wrap (lv : Int) = (lv : Int) := IntWalk.i64_in _ (by omega)
  have hw2 : IntKind.i64.wrap (n2 : Int) = (n2 : Int) := IntWalk.i64_in _ (by omega)
  have O5 : Own wa.heap.size wa [lfB w4.heap.size lv (.slice none 0 0), rdB w1.heap.size (rst bs 2), lfB wa.heap.size 0 (.slice none 0 0)] (w4.alloc (.cells #[.int .i64 lv, .slice none 0 0] 47)) := O4.new _ _
  go_wp2_with fail
  refine (Z6s O5 (L1 := [lfB w4.heap.size lv (.slice none 0 0)]) rfl 1 (by decide) (by decide) hr2 _ _ HG2.out).mono ?_
  rintro e w5 ⟨rfl, O6, -⟩
  clear O5
  have O6 : Own wa.heap.size wa [lfB w4.heap.size lv (.slice none 0 0), rdB w1.heap.size (rst bs 3), lfB wa.heap.size 0 (.slice none 0 0)] w5 := O6
  go_wp2_with fail
  refine (Z6s O6 (L1 := [lfB w4.heap.size lv (.slice none 0 0)]) rfl 1 (by decide) (by decide) hr3 _ _ HG3.out).mono ?_
  rintro e w6 ⟨rfl, O7, -⟩
  clear O6
  have O7 : Own wa.heap.size wa [lfB w4.heap.size lv (.slice none 0 0), rdB w1.heap.size (rst bs 4), lfB wa.heap.size 0 (.slice none 0 0)] w6 := O7
  have OR : ORow wa.heap.size wa [lfB w4.heap.size lv (.slice none 0 0), rdB w1.heap.size (rst bs 4), lfB wa.heap.size 0 (.slice none 0 0)] 98 2 (.slice none 0 0) 0 ((pairsAt bs 0).flatMap pairC) w6 := ORow.start O7 _ _
  clear O7 O4 HG0 HG1 HG2 HG3 hr1 hr2 hr3 hw1
  obtain ⟨i0, hi, hz0, hz1, hz2⟩ := info_parts infoPair
  by_cases hk3 : k3 = 0
  · subst hk3
    by_cases hk0 : k0 = 76
    · subst hk0
      by_cases hn15 : n2 ≤ 15
      · have d15 : decide ((n2 : Int) ≤ 15) = true := by rw [decide_eq_true_iff]; omega
        have HC : Hid (C = ((rst bs (4 + 16 * N)).1.all (· == 0) && goodB (lv : Nat) (pairsAt bs N))) := by
          have := HCo.out
          rw [decide_eq_true ⟨rfl, rfl, hn15⟩, Bool.true_and] at this
          exact this
        have hmin : min (n2 : Int) 15 = (N : Int) := by omega
        go_upto_region 10 with fail
        go_loopw [10, 48] (fun _ i wr => ∃ (j : Nat) (v : Value), j ≤ N ∧ i = .int .i64 j ∧ ORow wa.heap.size wa [lfB w4.heap.size lv v, rdB w1.heap.size (rst bs (4 + 16 * j)), lfB wa.heap.size 0 (.slice none 0 0)] 98 2 v j ((pairsAt bs j).flatMap pairC) wr) (fun _ i _ => N - (intOf i).toNat)
        case atStart => exact ⟨0, _, by omega, rfl, OR⟩
        case round =>
          clear OR
          obtain ⟨j, v, hj, rfl, OR⟩ := hrel
          by_cases hlt : j < N
          · obtain ⟨K1, hK1⟩ : ∃ K, (pairAt bs j).1 = K := ⟨_, rfl⟩
            obtain ⟨K2, hK2⟩ : ∃ K, (pairAt bs j).2 = K := ⟨_, rfl⟩
            have hfl := Z2t bs j
            rw [hK1, hK2] at hfl
            have hgA : getN (rst bs (4 + 16 * j)) 8 = (K1, rst bs (12 + 16 * j)) := by
              rw [← hK1, Z1y bs hl (4 + 16 * j) 8 (by omega), show 4 + 16 * j + 8 = 12 + 16 * j by omega]; rfl
            have hgB : getN (rst bs (12 + 16 * j)) 8 = (K2, rst bs (4 + 16 * (j + 1))) := by
              rw [← hK2, Z1y bs hl (12 + 16 * j) 8 (by omega), show 12 + 16 * j + 8 = 4 + 16 * (j + 1) by omega]; rfl
            have hrA : (rst bs (4 + 16 * j)).1.length ≤ 1000000 := by have := Z0s bs (4 + 16 * j); omega
            have hrB : (rst bs (12 + 16 * j)).1.length ≤ 1000000 := by have := Z0s bs (12 + 16 * j); omega
            have HGB := Lib.hid hgB
            have hjb : (j + 1) * 16 ≤ 140737488355328 := by omega
            have hjm : j + 1 ≤ maxLen := by unfold maxLen; omega
            have CA := Z3e OR (L1 := [lfB w4.heap.size lv v]) rfl 8 (by decide) (by decide) hrA _ _ hgA
            clear hK1 hK2 hgA hgB OR
            go_wp2_with fail
            refine CA.mono ?_
            rintro e w7 ⟨rfl, OR, -⟩
            clear CA
            have OR : ORow wa.heap.size wa [lfB w4.heap.size lv v, rdB w1.heap.size (rst bs (12 + 16 * j)), lfB wa.heap.size 0 (.slice none 0 0)] 98 2 v j ((pairsAt bs j).flatMap pairC) w7 := OR
            generalize hst1 : rst bs (12 + 16 * j) = st1 at HGB OR hrB
            generalize hst2 : rst bs (4 + 16 * (j + 1)) = st2 at HGB
            have HS2 := Lib.hid hst2
            clear hst1 hst2
            generalize hXS : (pairsAt bs j).flatMap pairC = XS at hfl OR
            clear hXS
            go_upto_region 12 with fail
            refine Z2q (KeepT 170) (fun l w => ORow wa.heap.size wa [lfB w4.heap.size lv v, rdB w1.heap.size (if l 4 = true then st2 else st1), lfB wa.heap.size 0 (.slice none 0 0)] 98 2 v j XS w) [[], [0], [], [], [3], [2, 3, 4], [2, 3, 4, 5], [0, 1, 2, 3, 4, 5, 6], [0, 1, 2, 3, 4, 5, 6, 7], [0, 1, 2, 3, 4, 5, 6, 7, 8]] [52, 53, 54, 55, 56, 57, 58] (KeepT.refl _) (OR.ext (Ext.drew _)) (by kernel_rfl) ?_
            apply BuildR.det 52 (KeepT.refl _) (fun l w h => h) (by rfl) (by rfl) rfl
            case h =>
              intro lx ax wx hE hR hF
              have e8 : ax.eval (.tmp 8) = .pointer (some ⟨w4.heap.size, 0, none⟩) := hE.eval 8 (by rfl) rfl
              simp [go_sem, ↓IntWalk.iteOmega, ev e8]
              with_reducible rfl
            apply BuildR.det 53 (KeepT.refl _) (fun l w h => h) (by rfl) (by rfl) rfl
            case h =>
              intro lx ax wx hE hR hF
              have e52 := hF 0 (det 52 _) (by decide) (.head _)
              have q1 : wx.cell? ⟨w4.heap.size, 1, none⟩ = some v := (ORow.own hR).all.1.cell 1
              simp [go_sem, ↓IntWalk.iteOmega, ev e52, q1]
              with_reducible rfl
            apply BuildR.det 54 (KeepT.refl _) (fun l w h => h) (by rfl) (by rfl) rfl
            case h =>
              intro lx ax wx hE hR hF
              have e10 : ax.eval (.tmp 10) = .int .u64 K1 := hE.eval 10 (by rfl) rfl
              simp [go_sem, ↓IntWalk.iteOmega, ev e10]
              with_reducible rfl
            apply BuildR.det 55 (KeepT.refl _) (fun l w h => h) (by rfl) (by rfl) rfl
            case h =>
              intro lx ax wx hE hR hF
              have e6 : ax.eval (.tmp 6) = .pointer (some ⟨w1.heap.size, 0, none⟩) := hE.eval 6 (by rfl) rfl
              simp [go_sem, ↓IntWalk.iteOmega, ev e6]
              with_reducible rfl
            apply BuildR.call 56 (by rfl) (by rfl) rfl
            case h =>
              intro lx ax wx hE hR hF
              have e55 := hF 3 (det 55 _) (by decide) (.head _)
              simp [go_sem, ↓IntWalk.iteOmega, ev e55]
              with_reducible exact ⟨rfl, rfl⟩
            case hc => intro lx wx hR hl hA; exact Z3d hR hl hrB HGB.out
            apply BuildR.det 57 (KeepT.refl _) (fun l w h => h) (by rfl) (by rfl) rfl
            case h =>
              intro lx ax wx hE hR hF
              have e54 := hF 2 (det 54 _) (by decide) (.tail _ (.tail _ (.head _)))
              have e56 := hF 4 (det 56 _) (by decide) (.head _)
              simp [go_sem, ↓IntWalk.iteOmega, ev e54, ev e56]
              with_reducible rfl
            refine BuildR.new 58 (fun v w => ∃ g, v = .slice (some ⟨g, 0, none⟩) 1 1 ∧ Blk w g 98 #[.int .u64 K1, .int .u64 K2]) (fun v w w' hR ⟨g, h1, h2⟩ => ⟨g, h1, hR _ _ _ (by decide) h2⟩) (by rfl) (by rfl) rfl ?_ ?_
            · intro lx ax wx hE hR hl hA hF
              have e57 := hF 5 (det 57 _) (by decide) (.head _)
              exact ⟨_, _, by simp [go_sem, ev e57], KeepT.of_ext (Ext.alloc _ _), ORow.ext hR (Ext.alloc _ _), _, rfl, Blk.new _ _ _⟩
            apply BuildR.stop
            refine ⟨by kernel_rfl, ?_⟩
            intro lx ax w8 hE OR8 hL hF
            have e52 := hF 0 (det 52 _) (.tail _ (.tail _ (.tail _ (.tail _ (.tail _ (.tail _ (.head _)))))))
            have e53 := hF 1 (det 53 _) (.tail _ (.tail _ (.tail _ (.tail _ (.tail _ (.head _))))))
            have e54 := hF 2 (det 54 _) (.tail _ (.tail _ (.tail _ (.tail _ (.head _)))))
            have e55 := hF 3 (det 55 _) (.tail _ (.tail _ (.tail _ (.head _))))
            have e56 := hF 4 (det 56 _) (.tail _ (.tail _ (.head _)))
            have e57 := hF 5 (det 57 _) (.tail _ (.head _))
            have f58 := hF 6 _ (.head _)
            obtain ⟨g, e58, hg⟩ := f58
            rw [AllEq.frame (D := [52, 53, 54, 55, 56, 57, 58]) (AllEq.cons e52 (AllEq.cons e53 (AllEq.cons e54 (AllEq.cons e55 (AllEq.cons e56 (AllEq.cons e57 (AllEq.cons e58 (AllEq.nil)))))))) hE rfl]
            clear hF hE e52 e53 e54 e55 e56 e57 e58
            simp only [List.foldl_cons, List.foldl_nil, Act.put, List.setIfInBounds_toArray, List.set_cons_succ, List.set_cons_zero]
            simp only [List.length_cons, List.length_nil, Nat.zero_add, Nat.reduceAdd, List.drop_succ_cons, List.drop_zero, List.drop_nil, tailOps]
            have OR8 : ORow wa.heap.size wa [lfB w4.heap.size lv v, rdB w1.heap.size st2, lfB wa.heap.size 0 (.slice none 0 0)] 98 2 v j XS w8 := by
              have h : ORow wa.heap.size wa [lfB w4.heap.size lv v, rdB w1.heap.size (if lx 4 = true then st2 else st1), lfB wa.heap.size 0 (.slice none 0 0)] 98 2 v j XS w8 := OR8
              rw [hL 4 (by simp)] at h
              exact h
            clear hL OR
            refine ORow.append OR8 _ _ 45 rfl i0 _ 16 Tryz.underlying45 hi hz0 hz1 hz2 rfl (by decide) rfl g 1 1 [.int .u64 K1, .int .u64 K2] rfl 98 hg rfl (by simp [Value.oneCell']) hjm hjb (fun v' w9 OR9 _ => ?_)
            rw [hfl] at OR9
            obtain ⟨B', cap', rfl⟩ := OR9.slice
            clear OR8 hg
            have q1 := OR9.own.all.1.cell 1
            have f1 := OR9.own.all.1.frozen 1
            refine Z1a (by simp [go_sem]; exact ⟨rfl, rfl⟩) ?_
            refine Z1o (by simp [go_sem, q1, f1]; rfl) ?_
            have OR10 := OR9.set (L1 := []) rfl 1 (.slice B' (j + 1) cap')
            rw [← HS2.out] at OR10
            clear OR9 q1 f1
            go_wp2_with fail
            go_roundw
            case rel => exact ⟨j + 1, _, by omega, by go_num, OR10⟩
            case measure => simp [intOf]; omega
          obtain rfl : j = N := by omega
          have hrz : (rst bs (4 + 16 * j)).1.length ≤ 1000000 := by have := Z0s bs (4 + 16 * j); omega
          obtain ⟨Z, hZ⟩ : ∃ Z, (rst bs (4 + 16 * j)).1.all (· == 0) = Z := ⟨_, rfl⟩
          have CZ := Z3c OR (L1 := [lfB w4.heap.size lv v]) rfl hrz Z hZ
          have HCZ := Lib.hid CZ
          have hZZ := Lib.hid hZ
          clear CZ hZ OR
          cases Z
          · have HC3 : Hid (C = false) := by
              have := HC.out
              rw [hZZ.out, Bool.false_and] at this
              exact this
            go_wp2_with fail
            refine HCZ.out.mono ?_
            rintro e w7 ⟨rfl, OR2⟩
            have OR2 : ORow wa.heap.size wa [lfB w4.heap.size lv v, rdB w1.heap.size ([], (rst bs (4 + 16 * j)).2), lfB wa.heap.size 0 (.slice none 0 0)] 98 2 v j ((pairsAt bs j).flatMap pairC) w7 := OR2
            clear HCZ
            have hR0 := OR2.own.all.2.2.1
            have p0 := hR0.cell 0
            have p1 := hR0.cell 1
            have fr0 := hR0.frozen 0
            have fr1 := hR0.frozen 1
            go_wp2_with fail
            have O3 := (OR2.own.set (L1 := [_, _]) rfl 0 (.int .i64 0)).set (L1 := [_, _]) rfl 1 (.slice none 0 0)
            exact Z14 (lv := 0) (v := .slice none 0 0) (x := 3) rfl rfl rfl O3.all.2.2.1 ⟨O3.below, fun _ => rfl, fun h => by rw [HC3.out] at h; cases h⟩
          · obtain ⟨G, hG⟩ : ∃ G, goodB (lv : Nat) (pairsAt bs j) = G := ⟨_, rfl⟩
            have HCG : Hid (C = G) := by
              have := HC.out
              rw [hZZ.out, Bool.true_and, hG] at this
              exact this
            go_wp2_with fail
            refine HCZ.out.mono ?_
            rintro e w7 ⟨rfl, OR2⟩
            have OR2 : ORow wa.heap.size wa [lfB w4.heap.size lv v, rdB w1.heap.size ([], (rst bs (4 + 16 * j)).2), lfB wa.heap.size 0 (.slice none 0 0)] 98 2 v j ((pairsAt bs j).flatMap pairC) w7 := OR2
            clear HCZ
            obtain ⟨Bp, cap, rfl, hcap1, hcap2, hrow⟩ := OR2.rows (fun _ => rfl) (Z18 bs j)
            have CG := Z6x lv Bp j cap (pairsAt bs j) w7 (Z18 bs j) (by omega) hrow (fun x hx => (Z65 bs j x hx).1)
            rw [hG] at CG
            have HHG := Lib.hid CG
            have hX := OR2.own.all.1
            have q0 := hX.cell 0
            have q1 := hX.cell 1
            have HOR := Lib.hid OR2
            clear CG hG hX hrow OR2 HC HCo hNn O2 O3 O4 O6 O7 hmin
            cases G
            · have HC3 : Hid (C = false) := HCG
              go_wp2_with fail
              refine HHG.out.mono ?_
              rintro e w8 ⟨rfl, R8⟩
              have OR2 := HOR.out.ext R8
              clear q0 q1 HHG R8 HOR
              have hR0 := OR2.own.all.2.2.1
              have p0 := hR0.cell 0
              have p1 := hR0.cell 1
              have fr0 := hR0.frozen 0
              have fr1 := hR0.frozen 1
              go_wp2_with fail
              have O3 := (OR2.own.set (L1 := [_, _]) rfl 0 (.int .i64 0)).set (L1 := [_, _]) rfl 1 (.slice none 0 0)
              exact Z14 (lv := 0) (v := .slice none 0 0) (x := 3) rfl rfl rfl O3.all.2.2.1 ⟨O3.below, fun _ => rfl, fun h => by rw [HC3.out] at h; cases h⟩
            · go_wp2_with fail
              refine HHG.out.mono ?_
              rintro e w8 ⟨rfl, R8⟩
              have OR2 := HOR.out.ext R8
              clear q0 q1 HHG R8 HOR
              have hX := OR2.own.all.1
              have q0 := hX.cell 0
              have q1 := hX.cell 1
              have hR0 := OR2.own.all.2.2.1
              have p0 := hR0.cell 0
              have p1 := hR0.cell 1
              have fr0 := hR0.frozen 0
              have fr1 := hR0.frozen 1
              go_wp2_with fail
              have ORS := (OR2.set (L1 := [_, _]) rfl 0 (.int .i64 lv)).set (L1 := [_, _]) rfl 1 (.slice Bp j cap)
              obtain ⟨B2, cap2, he, -, -, hrow2⟩ := ORS.rows (fun _ => rfl) (Z18 bs j)
              cases he
              exact Z14 (lv := lv) (v := .slice Bp j cap) (x := 0) rfl rfl rfl ORS.own.all.2.2.1 ⟨ORS.own.below, fun h => (by rw [HCG.out] at h; cases h), fun _ => ⟨Bp, cap, rfl, hcap1, hcap2, hrow2⟩⟩
      · have d15 : decide ((n2 : Int) ≤ 15) = false := by rw [decide_eq_false_iff_not]; omega
        have HC : Hid (C = false) := by
          have := HCo.out
          rw [decide_eq_false (fun e => hn15 e.2.2), Bool.false_and] at this
          exact this
        have hmin : min (n2 : Int) 15 = (N : Int) := by omega
        go_upto_region 10 with fail
        go_loopw [10, 48] (fun _ i wr => ∃ (j : Nat) (v : Value), j ≤ N ∧ i = .int .i64 j ∧ ORow wa.heap.size wa [lfB w4.heap.size lv v, rdB w1.heap.size (rst bs (4 + 16 * j)), lfB wa.heap.size 0 (.slice none 0 0)] 98 2 v j ((pairsAt bs j).flatMap pairC) wr) (fun _ i _ => N - (intOf i).toNat)
        case atStart => exact ⟨0, _, by omega, rfl, OR⟩
        case round =>
          clear OR
          obtain ⟨j, v, hj, rfl, OR⟩ := hrel
          by_cases hlt : j < N
          · obtain ⟨K1, hK1⟩ : ∃ K, (pairAt bs j).1 = K := ⟨_, rfl⟩
            obtain ⟨K2, hK2⟩ : ∃ K, (pairAt bs j).2 = K := ⟨_, rfl⟩
            have hfl := Z2t bs j
            rw [hK1, hK2] at hfl
            have hgA : getN (rst bs (4 + 16 * j)) 8 = (K1, rst bs (12 + 16 * j)) := by
              rw [← hK1, Z1y bs hl (4 + 16 * j) 8 (by omega), show 4 + 16 * j + 8 = 12 + 16 * j by omega]; rfl
            have hgB : getN (rst bs (12 + 16 * j)) 8 = (K2, rst bs (4 + 16 * (j + 1))) := by
              rw [← hK2, Z1y bs hl (12 + 16 * j) 8 (by omega), show 12 + 16 * j + 8 = 4 + 16 * (j + 1) by omega]; rfl
            have hrA : (rst bs (4 + 16 * j)).1.length ≤ 1000000 := by have := Z0s bs (4 + 16 * j); omega
            have hrB : (rst bs (12 + 16 * j)).1.length ≤ 1000000 := by have := Z0s bs (12 + 16 * j); omega
            have HGB := Lib.hid hgB
            have hjb : (j + 1) * 16 ≤ 140737488355328 := by omega
            have hjm : j + 1 ≤ maxLen := by unfold maxLen; omega
            have CA := Z3e OR (L1 := [lfB w4.heap.size lv v]) rfl 8 (by decide) (by decide) hrA _ _ hgA
            clear hK1 hK2 hgA hgB OR
            go_wp2_with fail
            refine CA.mono ?_
            rintro e w7 ⟨rfl, OR, -⟩
            clear CA
            have OR : ORow wa.heap.size wa [lfB w4.heap.size lv v, rdB w1.heap.size (rst bs (12 + 16 * j)), lfB wa.heap.size 0 (.slice none 0 0)] 98 2 v j ((pairsAt bs j).flatMap pairC) w7 := OR
            generalize hst1 : rst bs (12 + 16 * j) = st1 at HGB OR hrB
            generalize hst2 : rst bs (4 + 16 * (j + 1)) = st2 at HGB
            have HS2 := Lib.hid hst2
            clear hst1 hst2
            generalize hXS : (pairsAt bs j).flatMap pairC = XS at hfl OR
            clear hXS
            go_upto_region 12 with fail
            refine Z2q (KeepT 170) (fun l w => ORow wa.heap.size wa [lfB w4.heap.size lv v, rdB w1.heap.size (if l 4 = true then st2 else st1), lfB wa.heap.size 0 (.slice none 0 0)] 98 2 v j XS w) [[], [0], [], [], [3], [2, 3, 4], [2, 3, 4, 5], [0, 1, 2, 3, 4, 5, 6], [0, 1, 2, 3, 4, 5, 6, 7], [0, 1, 2, 3, 4, 5, 6, 7, 8]] [52, 53, 54, 55, 56, 57, 58] (KeepT.refl _) (OR.ext (Ext.drew _)) (by kernel_rfl) ?_
            apply BuildR.det 52 (KeepT.refl _) (fun l w h => h) (by rfl) (by rfl) rfl
            case h =>
              intro lx ax wx hE hR hF
              have e8 : ax.eval (.tmp 8) = .pointer (some ⟨w4.heap.size, 0, none⟩) := hE.eval 8 (by rfl) rfl
              simp [go_sem, ↓IntWalk.iteOmega, ev e8]
              with_reducible rfl
            apply BuildR.det 53 (KeepT.refl _) (fun l w h => h) (by rfl) (by rfl) rfl
            case h =>
              intro lx ax wx hE hR hF
              have e52 := hF 0 (det 52 _) (by decide) (.head _)
              have q1 : wx.cell? ⟨w4.heap.size, 1, none⟩ = some v := (ORow.own hR).all.1.cell 1
              simp [go_sem, ↓IntWalk.iteOmega, ev e52, q1]
              with_reducible rfl
            apply BuildR.det 54 (KeepT.refl _) (fun l w h => h) (by rfl) (by rfl) rfl
            case h =>
              intro lx ax wx hE hR hF
              have e10 : ax.eval (.tmp 10) = .int .u64 K1 := hE.eval 10 (by rfl) rfl
              simp [go_sem, ↓IntWalk.iteOmega, ev e10]
              with_reducible rfl
            apply BuildR.det 55 (KeepT.refl _) (fun l w h => h) (by rfl) (by rfl) rfl
            case h =>
              intro lx ax wx hE hR hF
              have e6 : ax.eval (.tmp 6) = .pointer (some ⟨w1.heap.size, 0, none⟩) := hE.eval 6 (by rfl) rfl
              simp [go_sem, ↓IntWalk.iteOmega, ev e6]
              with_reducible rfl
            apply BuildR.call 56 (by rfl) (by rfl) rfl
            case h =>
              intro lx ax wx hE hR hF
              have e55 := hF 3 (det 55 _) (by decide) (.head _)
              simp [go_sem, ↓IntWalk.iteOmega, ev e55]
              with_reducible exact ⟨rfl, rfl⟩
            case hc => intro lx wx hR hl hA; exact Z3d hR hl hrB HGB.out
            apply BuildR.det 57 (KeepT.refl _) (fun l w h => h) (by rfl) (by rfl) rfl
            case h =>
              intro lx ax wx hE hR hF
              have e54 := hF 2 (det 54 _) (by decide) (.tail _ (.tail _ (.head _)))
              have e56 := hF 4 (det 56 _) (by decide) (.head _)
              simp [go_sem, ↓IntWalk.iteOmega, ev e54, ev e56]
              with_reducible rfl
            refine BuildR.new 58 (fun v w => ∃ g, v = .slice (some ⟨g, 0, none⟩) 1 1 ∧ Blk w g 98 #[.int .u64 K1, .int .u64 K2]) (fun v w w' hR ⟨g, h1, h2⟩ => ⟨g, h1, hR _ _ _ (by decide) h2⟩) (by rfl) (by rfl) rfl ?_ ?_
            · intro lx ax wx hE hR hl hA hF
              have e57 := hF 5 (det 57 _) (by decide) (.head _)
              exact ⟨_, _, by simp [go_sem, ev e57], KeepT.of_ext (Ext.alloc _ _), ORow.ext hR (Ext.alloc _ _), _, rfl, Blk.new _ _ _⟩
            apply BuildR.stop
            refine ⟨by kernel_rfl, ?_⟩
            intro lx ax w8 hE OR8 hL hF
            have e52 := hF 0 (det 52 _) (.tail _ (.tail _ (.tail _ (.tail _ (.tail _ (.tail _ (.head _)))))))
            have e53 := hF 1 (det 53 _) (.tail _ (.tail _ (.tail _ (.tail _ (.tail _ (.head _))))))
            have e54 := hF 2 (det 54 _) (.tail _ (.tail _ (.tail _ (.tail _ (.head _)))))
            have e55 := hF 3 (det 55 _) (.tail _ (.tail _ (.tail _ (.head _))))
            have e56 := hF 4 (det 56 _) (.tail _ (.tail _ (.head _)))
            have e57 := hF 5 (det 57 _) (.tail _ (.head _))
            have f58 := hF 6 _ (.head _)
            obtain ⟨g, e58, hg⟩ := f58
            rw [AllEq.frame (D := [52, 53, 54, 55, 56, 57, 58]) (AllEq.cons e52 (AllEq.cons e53 (AllEq.cons e54 (AllEq.cons e55 (AllEq.cons e56 (AllEq.cons e57 (AllEq.cons e58 (AllEq.nil)))))))) hE rfl]
            clear hF hE e52 e53 e54 e55 e56 e57 e58
            simp only [List.foldl_cons, List.foldl_nil, Act.put, List.setIfInBounds_toArray, List.set_cons_succ, List.set_cons_zero]
            simp only [List.length_cons, List.length_nil, Nat.zero_add, Nat.reduceAdd, List.drop_succ_cons, List.drop_zero, List.drop_nil, tailOps]
            have OR8 : ORow wa.heap.size wa [lfB w4.heap.size lv v, rdB w1.heap.size st2, lfB wa.heap.size 0 (.slice none 0 0)] 98 2 v j XS w8 := by
              have h : ORow wa.heap.size wa [lfB w4.heap.size lv v, rdB w1.heap.size (if lx 4 = true then st2 else st1), lfB wa.heap.size 0 (.slice none 0 0)] 98 2 v j XS w8 := OR8
              rw [hL 4 (by simp)] at h
              exact h
            clear hL OR
            refine ORow.append OR8 _ _ 45 rfl i0 _ 16 Tryz.underlying45 hi hz0 hz1 hz2 rfl (by decide) rfl g 1 1 [.int .u64 K1, .int .u64 K2] rfl 98 hg rfl (by simp [Value.oneCell']) hjm hjb (fun v' w9 OR9 _ => ?_)
            rw [hfl] at OR9
            obtain ⟨B', cap', rfl⟩ := OR9.slice
            clear OR8 hg
            have q1 := OR9.own.all.1.cell 1
            have f1 := OR9.own.all.1.frozen 1
            refine Z1a (by simp [go_sem]; exact ⟨rfl, rfl⟩) ?_
            refine Z1o (by simp [go_sem, q1, f1]; rfl) ?_
            have OR10 := OR9.set (L1 := []) rfl 1 (.slice B' (j + 1) cap')
            rw [← HS2.out] at OR10
            clear OR9 q1 f1
            go_wp2_with fail
            go_roundw
            case rel => exact ⟨j + 1, _, by omega, by go_num, OR10⟩
            case measure => simp [intOf]; omega
          obtain rfl : j = N := by omega
          have hrz : (rst bs (4 + 16 * j)).1.length ≤ 1000000 := by have := Z0s bs (4 + 16 * j); omega
          obtain ⟨Z, hZ⟩ : ∃ Z, (rst bs (4 + 16 * j)).1.all (· == 0) = Z := ⟨_, rfl⟩
          have CZ := Z3c OR (L1 := [lfB w4.heap.size lv v]) rfl hrz Z hZ
          have HCZ := Lib.hid CZ
          have hZZ := Lib.hid hZ
          clear CZ hZ OR
          have HC3 : Hid (C = false) := HC
          cases Z
          ·
            go_wp2_with fail
            refine HCZ.out.mono ?_
            rintro e w7 ⟨rfl, OR2⟩
            have OR2 : ORow wa.heap.size wa [lfB w4.heap.size lv v, rdB w1.heap.size ([], (rst bs (4 + 16 * j)).2), lfB wa.heap.size 0 (.slice none 0 0)] 98 2 v j ((pairsAt bs j).flatMap pairC) w7 := OR2
            clear HCZ
            have hR0 := OR2.own.all.2.2.1
            have p0 := hR0.cell 0
            have p1 := hR0.cell 1
            have fr0 := hR0.frozen 0
            have fr1 := hR0.frozen 1
            go_wp2_with fail
            have O3 := (OR2.own.set (L1 := [_, _]) rfl 0 (.int .i64 0)).set (L1 := [_, _]) rfl 1 (.slice none 0 0)
            exact Z14 (lv := 0) (v := .slice none 0 0) (x := 3) rfl rfl rfl O3.all.2.2.1 ⟨O3.below, fun _ => rfl, fun h => by rw [HC3.out] at h; cases h⟩
          ·
            go_wp2_with fail
            refine HCZ.out.mono ?_
            rintro e w7 ⟨rfl, OR2⟩
            have OR2 : ORow wa.heap.size wa [lfB w4.heap.size lv v, rdB w1.heap.size ([], (rst bs (4 + 16 * j)).2), lfB wa.heap.size 0 (.slice none 0 0)] 98 2 v j ((pairsAt bs j).flatMap pairC) w7 := OR2
            clear HCZ
            have hR0 := OR2.own.all.2.2.1
            have p0 := hR0.cell 0
            have p1 := hR0.cell 1
            have fr0 := hR0.frozen 0
            have fr1 := hR0.frozen 1
            go_wp2_with fail
            have O3 := (OR2.own.set (L1 := [_, _]) rfl 0 (.int .i64 0)).set (L1 := [_, _]) rfl 1 (.slice none 0 0)
            exact Z14 (lv := 0) (v := .slice none 0 0) (x := 3) rfl rfl rfl O3.all.2.2.1 ⟨O3.below, fun _ => rfl, fun h => by rw [HC3.out] at h; cases h⟩
    · have d0 : ((k0 : Int) == 76) = false := by simpa using (show ¬ (k0 : Int) = 76 by omega)
      have HC : Hid (C = false) := by
        have := HCo.out
        rw [decide_eq_false (fun e => hk0 e.1), Bool.false_and] at this
        exact this
      have hmin : min (n2 : Int) 15 = (N : Int) := by omega
      go_upto_region 10 with fail
      go_loopw [10, 48] (fun _ i wr => ∃ (j : Nat) (v : Value), j ≤ N ∧ i = .int .i64 j ∧ ORow wa.heap.size wa [lfB w4.heap.size lv v, rdB w1.heap.size (rst bs (4 + 16 * j)), lfB wa.heap.size 0 (.slice none 0 0)] 98 2 v j ((pairsAt bs j).flatMap pairC) wr) (fun _ i _ => N - (intOf i).toNat)
      case atStart => exact ⟨0, _, by omega, rfl, OR⟩
      case round =>
        clear OR
        obtain ⟨j, v, hj, rfl, OR⟩ := hrel
        by_cases hlt : j < N
        · obtain ⟨K1, hK1⟩ : ∃ K, (pairAt bs j).1 = K := ⟨_, rfl⟩
          obtain ⟨K2, hK2⟩ : ∃ K, (pairAt bs j).2 = K := ⟨_, rfl⟩
          have hfl := Z2t bs j
          rw [hK1, hK2] at hfl
          have hgA : getN (rst bs (4 + 16 * j)) 8 = (K1, rst bs (12 + 16 * j)) := by
            rw [← hK1, Z1y bs hl (4 + 16 * j) 8 (by omega), show 4 + 16 * j + 8 = 12 + 16 * j by omega]; rfl
          have hgB : getN (rst bs (12 + 16 * j)) 8 = (K2, rst bs (4 + 16 * (j + 1))) := by
            rw [← hK2, Z1y bs hl (12 + 16 * j) 8 (by omega), show 12 + 16 * j + 8 = 4 + 16 * (j + 1) by omega]; rfl
          have hrA : (rst bs (4 + 16 * j)).1.length ≤ 1000000 := by have := Z0s bs (4 + 16 * j); omega
          have hrB : (rst bs (12 + 16 * j)).1.length ≤ 1000000 := by have := Z0s bs (12 + 16 * j); omega
          have HGB := Lib.hid hgB
          have hjb : (j + 1) * 16 ≤ 140737488355328 := by omega
          have hjm : j + 1 ≤ maxLen := by unfold maxLen; omega
          have CA := Z3e OR (L1 := [lfB w4.heap.size lv v]) rfl 8 (by decide) (by decide) hrA _ _ hgA
          clear hK1 hK2 hgA hgB OR
          go_wp2_with fail
          refine CA.mono ?_
          rintro e w7 ⟨rfl, OR, -⟩
          clear CA
          have OR : ORow wa.heap.size wa [lfB w4.heap.size lv v, rdB w1.heap.size (rst bs (12 + 16 * j)), lfB wa.heap.size 0 (.slice none 0 0)] 98 2 v j ((pairsAt bs j).flatMap pairC) w7 := OR
          generalize hst1 : rst bs (12 + 16 * j) = st1 at HGB OR hrB
          generalize hst2 : rst bs (4 + 16 * (j + 1)) = st2 at HGB
          have HS2 := Lib.hid hst2
          clear hst1 hst2
          generalize hXS : (pairsAt bs j).flatMap pairC = XS at hfl OR
          clear hXS
          go_upto_region 12 with fail
          refine Z2q (KeepT 170) (fun l w => ORow wa.heap.size wa [lfB w4.heap.size lv v, rdB w1.heap.size (if l 4 = true then st2 else st1), lfB wa.heap.size 0 (.slice none 0 0)] 98 2 v j XS w) [[], [0], [], [], [3], [2, 3, 4], [2, 3, 4, 5], [0, 1, 2, 3, 4, 5, 6], [0, 1, 2, 3, 4, 5, 6, 7], [0, 1, 2, 3, 4, 5, 6, 7, 8]] [52, 53, 54, 55, 56, 57, 58] (KeepT.refl _) (OR.ext (Ext.drew _)) (by kernel_rfl) ?_
          apply BuildR.det 52 (KeepT.refl _) (fun l w h => h) (by rfl) (by rfl) rfl
          case h =>
            intro lx ax wx hE hR hF
            have e8 : ax.eval (.tmp 8) = .pointer (some ⟨w4.heap.size, 0, none⟩) := hE.eval 8 (by rfl) rfl
            simp [go_sem, ↓IntWalk.iteOmega, ev e8]
            with_reducible rfl
          apply BuildR.det 53 (KeepT.refl _) (fun l w h => h) (by rfl) (by rfl) rfl
          case h =>
            intro lx ax wx hE hR hF
            have e52 := hF 0 (det 52 _) (by decide) (.head _)
            have q1 : wx.cell? ⟨w4.heap.size, 1, none⟩ = some v := (ORow.own hR).all.1.cell 1
            simp [go_sem, ↓IntWalk.iteOmega, ev e52, q1]
            with_reducible rfl
          apply BuildR.det 54 (KeepT.refl _) (fun l w h => h) (by rfl) (by rfl) rfl
          case h =>
            intro lx ax wx hE hR hF
            have e10 : ax.eval (.tmp 10) = .int .u64 K1 := hE.eval 10 (by rfl) rfl
            simp [go_sem, ↓IntWalk.iteOmega, ev e10]
            with_reducible rfl
          apply BuildR.det 55 (KeepT.refl _) (fun l w h => h) (by rfl) (by rfl) rfl
          case h =>
            intro lx ax wx hE hR hF
            have e6 : ax.eval (.tmp 6) = .pointer (some ⟨w1.heap.size, 0, none⟩) := hE.eval 6 (by rfl) rfl
            simp [go_sem, ↓IntWalk.iteOmega, ev e6]
            with_reducible rfl
          apply BuildR.call 56 (by rfl) (by rfl) rfl
          case h =>
            intro lx ax wx hE hR hF
            have e55 := hF 3 (det 55 _) (by decide) (.head _)
            simp [go_sem, ↓IntWalk.iteOmega, ev e55]
            with_reducible exact ⟨rfl, rfl⟩
          case hc => intro lx wx hR hl hA; exact Z3d hR hl hrB HGB.out
          apply BuildR.det 57 (KeepT.refl _) (fun l w h => h) (by rfl) (by rfl) rfl
          case h =>
            intro lx ax wx hE hR hF
            have e54 := hF 2 (det 54 _) (by decide) (.tail _ (.tail _ (.head _)))
            have e56 := hF 4 (det 56 _) (by decide) (.head _)
            simp [go_sem, ↓IntWalk.iteOmega, ev e54, ev e56]
            with_reducible rfl
          refine BuildR.new 58 (fun v w => ∃ g, v = .slice (some ⟨g, 0, none⟩) 1 1 ∧ Blk w g 98 #[.int .u64 K1, .int .u64 K2]) (fun v w w' hR ⟨g, h1, h2⟩ => ⟨g, h1, hR _ _ _ (by decide) h2⟩) (by rfl) (by rfl) rfl ?_ ?_
          · intro lx ax wx hE hR hl hA hF
            have e57 := hF 5 (det 57 _) (by decide) (.head _)
            exact ⟨_, _, by simp [go_sem, ev e57], KeepT.of_ext (Ext.alloc _ _), ORow.ext hR (Ext.alloc _ _), _, rfl, Blk.new _ _ _⟩
          apply BuildR.stop
          refine ⟨by kernel_rfl, ?_⟩
          intro lx ax w8 hE OR8 hL hF
          have e52 := hF 0 (det 52 _) (.tail _ (.tail _ (.tail _ (.tail _ (.tail _ (.tail _ (.head _)))))))
          have e53 := hF 1 (det 53 _) (.tail _ (.tail _ (.tail _ (.tail _ (.tail _ (.head _))))))
          have e54 := hF 2 (det 54 _) (.tail _ (.tail _ (.tail _ (.tail _ (.head _)))))
          have e55 := hF 3 (det 55 _) (.tail _ (.tail _ (.tail _ (.head _))))
          have e56 := hF 4 (det 56 _) (.tail _ (.tail _ (.head _)))
          have e57 := hF 5 (det 57 _) (.tail _ (.head _))
          have f58 := hF 6 _ (.head _)
          obtain ⟨g, e58, hg⟩ := f58
          rw [AllEq.frame (D := [52, 53, 54, 55, 56, 57, 58]) (AllEq.cons e52 (AllEq.cons e53 (AllEq.cons e54 (AllEq.cons e55 (AllEq.cons e56 (AllEq.cons e57 (AllEq.cons e58 (AllEq.nil)))))))) hE rfl]
          clear hF hE e52 e53 e54 e55 e56 e57 e58
          simp only [List.foldl_cons, List.foldl_nil, Act.put, List.setIfInBounds_toArray, List.set_cons_succ, List.set_cons_zero]
          simp only [List.length_cons, List.length_nil, Nat.zero_add, Nat.reduceAdd, List.drop_succ_cons, List.drop_zero, List.drop_nil, tailOps]
          have OR8 : ORow wa.heap.size wa [lfB w4.heap.size lv v, rdB w1.heap.size st2, lfB wa.heap.size 0 (.slice none 0 0)] 98 2 v j XS w8 := by
            have h : ORow wa.heap.size wa [lfB w4.heap.size lv v, rdB w1.heap.size (if lx 4 = true then st2 else st1), lfB wa.heap.size 0 (.slice none 0 0)] 98 2 v j XS w8 := OR8
            rw [hL 4 (by simp)] at h
            exact h
          clear hL OR
          refine ORow.append OR8 _ _ 45 rfl i0 _ 16 Tryz.underlying45 hi hz0 hz1 hz2 rfl (by decide) rfl g 1 1 [.int .u64 K1, .int .u64 K2] rfl 98 hg rfl (by simp [Value.oneCell']) hjm hjb (fun v' w9 OR9 _ => ?_)
          rw [hfl] at OR9
          obtain ⟨B', cap', rfl⟩ := OR9.slice
          clear OR8 hg
          have q1 := OR9.own.all.1.cell 1
          have f1 := OR9.own.all.1.frozen 1
          refine Z1a (by simp [go_sem]; exact ⟨rfl, rfl⟩) ?_
          refine Z1o (by simp [go_sem, q1, f1]; rfl) ?_
          have OR10 := OR9.set (L1 := []) rfl 1 (.slice B' (j + 1) cap')
          rw [← HS2.out] at OR10
          clear OR9 q1 f1
          go_wp2_with fail
          go_roundw
          case rel => exact ⟨j + 1, _, by omega, by go_num, OR10⟩
          case measure => simp [intOf]; omega
        obtain rfl : j = N := by omega
        have hrz : (rst bs (4 + 16 * j)).1.length ≤ 1000000 := by have := Z0s bs (4 + 16 * j); omega
        obtain ⟨Z, hZ⟩ : ∃ Z, (rst bs (4 + 16 * j)).1.all (· == 0) = Z := ⟨_, rfl⟩
        have CZ := Z3c OR (L1 := [lfB w4.heap.size lv v]) rfl hrz Z hZ
        have HCZ := Lib.hid CZ
        have hZZ := Lib.hid hZ
        clear CZ hZ OR
        have HC3 : Hid (C = false) := HC
        cases Z
        ·
          go_wp2_with fail
          refine HCZ.out.mono ?_
          rintro e w7 ⟨rfl, OR2⟩
          have OR2 : ORow wa.heap.size wa [lfB w4.heap.size lv v, rdB w1.heap.size ([], (rst bs (4 + 16 * j)).2), lfB wa.heap.size 0 (.slice none 0 0)] 98 2 v j ((pairsAt bs j).flatMap pairC) w7 := OR2
          clear HCZ
          have hR0 := OR2.own.all.2.2.1
          have p0 := hR0.cell 0
          have p1 := hR0.cell 1
          have fr0 := hR0.frozen 0
          have fr1 := hR0.frozen 1
          go_wp2_with fail
          have O3 := (OR2.own.set (L1 := [_, _]) rfl 0 (.int .i64 0)).set (L1 := [_, _]) rfl 1 (.slice none 0 0)
          exact Z14 (lv := 0) (v := .slice none 0 0) (x := 3) rfl rfl rfl O3.all.2.2.1 ⟨O3.below, fun _ => rfl, fun h => by rw [HC3.out] at h; cases h⟩
        ·
          go_wp2_with fail
          refine HCZ.out.mono ?_
          rintro e w7 ⟨rfl, OR2⟩
          have OR2 : ORow wa.heap.size wa [lfB w4.heap.size lv v, rdB w1.heap.size ([], (rst bs (4 + 16 * j)).2), lfB wa.heap.size 0 (.slice none 0 0)] 98 2 v j ((pairsAt bs j).flatMap pairC) w7 := OR2
          clear HCZ
          have hR0 := OR2.own.all.2.2.1
          have p0 := hR0.cell 0
          have p1 := hR0.cell 1
          have fr0 := hR0.frozen 0
          have fr1 := hR0.frozen 1
          go_wp2_with fail
          have O3 := (OR2.own.set (L1 := [_, _]) rfl 0 (.int .i64 0)).set (L1 := [_, _]) rfl 1 (.slice none 0 0)
          exact Z14 (lv := 0) (v := .slice none 0 0) (x := 3) rfl rfl rfl O3.all.2.2.1 ⟨O3.below, fun _ => rfl, fun h => by rw [HC3.out] at h; cases h⟩
  · have d3 : ((k3 : Int) == 0) = false := by simpa using hk3
    have HC : Hid (C = false) := by
      have := HCo.out
      rw [decide_eq_false (fun e => hk3 e.2.1), Bool.false_and] at this
      exact this
    have hmin : min (n2 : Int) 15 = (N : Int) := by omega
    go_upto_region 10 with fail
    go_loopw [10, 48] (fun _ i wr => ∃ (j : Nat) (v : Value), j ≤ N ∧ i = .int .i64 j ∧ ORow wa.heap.size wa [lfB w4.heap.size lv v, rdB w1.heap.size (rst bs (4 + 16 * j)), lfB wa.heap.size 0 (.slice none 0 0)] 98 2 v j ((pairsAt bs j).flatMap pairC) wr) (fun _ i _ => N - (intOf i).toNat)
    case atStart => exact ⟨0, _, by omega, rfl, OR⟩
    case round =>
      clear OR
      obtain ⟨j, v, hj, rfl, OR⟩ := hrel
      by_cases hlt : j < N
      · obtain ⟨K1, hK1⟩ : ∃ K, (pairAt bs j).1 = K := ⟨_, rfl⟩
        obtain ⟨K2, hK2⟩ : ∃ K, (pairAt bs j).2 = K := ⟨_, rfl⟩
        have hfl := Z2t bs j
        rw [hK1, hK2] at hfl
        have hgA : getN (rst bs (4 + 16 * j)) 8 = (K1, rst bs (12 + 16 * j)) := by
          rw [← hK1, Z1y bs hl (4 + 16 * j) 8 (by omega), show 4 + 16 * j + 8 = 12 + 16 * j by omega]; rfl
        have hgB : getN (rst bs (12 + 16 * j)) 8 = (K2, rst bs (4 + 16 * (j + 1))) := by
          rw [← hK2, Z1y bs hl (12 + 16 * j) 8 (by omega), show 12 + 16 * j + 8 = 4 + 16 * (j + 1) by omega]; rfl
        have hrA : (rst bs (4 + 16 * j)).1.length ≤ 1000000 := by have := Z0s bs (4 + 16 * j); omega
        have hrB : (rst bs (12 + 16 * j)).1.length ≤ 1000000 := by have := Z0s bs (12 + 16 * j); omega
        have HGB := Lib.hid hgB
        have hjb : (j + 1) * 16 ≤ 140737488355328 := by omega
        have hjm : j + 1 ≤ maxLen := by unfold maxLen; omega
        have CA := Z3e OR (L1 := [lfB w4.heap.size lv v]) rfl 8 (by decide) (by decide) hrA _ _ hgA
        clear hK1 hK2 hgA hgB OR
        go_wp2_with fail
        refine CA.mono ?_
        rintro e w7 ⟨rfl, OR, -⟩
        clear CA
        have OR : ORow wa.heap.size wa [lfB w4.heap.size lv v, rdB w1.heap.size (rst bs (12 + 16 * j)), lfB wa.heap.size 0 (.slice none 0 0)] 98 2 v j ((pairsAt bs j).flatMap pairC) w7 := OR
        generalize hst1 : rst bs (12 + 16 * j) = st1 at HGB OR hrB
        generalize hst2 : rst bs (4 + 16 * (j + 1)) = st2 at HGB
        have HS2 := Lib.hid hst2
        clear hst1 hst2
        generalize hXS : (pairsAt bs j).flatMap pairC = XS at hfl OR
        clear hXS
        go_upto_region 12 with fail
        refine Z2q (KeepT 170) (fun l w => ORow wa.heap.size wa [lfB w4.heap.size lv v, rdB w1.heap.size (if l 4 = true then st2 else st1), lfB wa.heap.size 0 (.slice none 0 0)] 98 2 v j XS w) [[], [0], [], [], [3], [2, 3, 4], [2, 3, 4, 5], [0, 1, 2, 3, 4, 5, 6], [0, 1, 2, 3, 4, 5, 6, 7], [0, 1, 2, 3, 4, 5, 6, 7, 8]] [52, 53, 54, 55, 56, 57, 58] (KeepT.refl _) (OR.ext (Ext.drew _)) (by kernel_rfl) ?_
        apply BuildR.det 52 (KeepT.refl _) (fun l w h => h) (by rfl) (by rfl) rfl
        case h =>
          intro lx ax wx hE hR hF
          have e8 : ax.eval (.tmp 8) = .pointer (some ⟨w4.heap.size, 0, none⟩) := hE.eval 8 (by rfl) rfl
          simp [go_sem, ↓IntWalk.iteOmega, ev e8]
          with_reducible rfl
        apply BuildR.det 53 (KeepT.refl _) (fun l w h => h) (by rfl) (by rfl) rfl
        case h =>
          intro lx ax wx hE hR hF
          have e52 := hF 0 (det 52 _) (by decide) (.head _)
          have q1 : wx.cell? ⟨w4.heap.size, 1, none⟩ = some v := (ORow.own hR).all.1.cell 1
          simp [go_sem, ↓IntWalk.iteOmega, ev e52, q1]
          with_reducible rfl
        apply BuildR.det 54 (KeepT.refl _) (fun l w h => h) (by rfl) (by rfl) rfl
        case h =>
          intro lx ax wx hE hR hF
          have e10 : ax.eval (.tmp 10) = .int .u64 K1 := hE.eval 10 (by rfl) rfl
          simp [go_sem, ↓IntWalk.iteOmega, ev e10]
          with_reducible rfl
        apply BuildR.det 55 (KeepT.refl _) (fun l w h => h) (by rfl) (by rfl) rfl
        case h =>
          intro lx ax wx hE hR hF
          have e6 : ax.eval (.tmp 6) = .pointer (some ⟨w1.heap.size, 0, none⟩) := hE.eval 6 (by rfl) rfl
          simp [go_sem, ↓IntWalk.iteOmega, ev e6]
          with_reducible rfl
        apply BuildR.call 56 (by rfl) (by rfl) rfl
        case h =>
          intro lx ax wx hE hR hF
          have e55 := hF 3 (det 55 _) (by decide) (.head _)
          simp [go_sem, ↓IntWalk.iteOmega, ev e55]
          with_reducible exact ⟨rfl, rfl⟩
        case hc => intro lx wx hR hl hA; exact Z3d hR hl hrB HGB.out
        apply BuildR.det 57 (KeepT.refl _) (fun l w h => h) (by rfl) (by rfl) rfl
        case h =>
          intro lx ax wx hE hR hF
          have e54 := hF 2 (det 54 _) (by decide) (.tail _ (.tail _ (.head _)))
          have e56 := hF 4 (det 56 _) (by decide) (.head _)
          simp [go_sem, ↓IntWalk.iteOmega, ev e54, ev e56]
          with_reducible rfl
        refine BuildR.new 58 (fun v w => ∃ g, v = .slice (some ⟨g, 0, none⟩) 1 1 ∧ Blk w g 98 #[.int .u64 K1, .int .u64 K2]) (fun v w w' hR ⟨g, h1, h2⟩ => ⟨g, h1, hR _ _ _ (by decide) h2⟩) (by rfl) (by rfl) rfl ?_ ?_
        · intro lx ax wx hE hR hl hA hF
          have e57 := hF 5 (det 57 _) (by decide) (.head _)
          exact ⟨_, _, by simp [go_sem, ev e57], KeepT.of_ext (Ext.alloc _ _), ORow.ext hR (Ext.alloc _ _), _, rfl, Blk.new _ _ _⟩
        apply BuildR.stop
        refine ⟨by kernel_rfl, ?_⟩
        intro lx ax w8 hE OR8 hL hF
        have e52 := hF 0 (det 52 _) (.tail _ (.tail _ (.tail _ (.tail _ (.tail _ (.tail _ (.head _)))))))
        have e53 := hF 1 (det 53 _) (.tail _ (.tail _ (.tail _ (.tail _ (.tail _ (.head _))))))
        have e54 := hF 2 (det 54 _) (.tail _ (.tail _ (.tail _ (.tail _ (.head _)))))
        have e55 := hF 3 (det 55 _) (.tail _ (.tail _ (.tail _ (.head _))))
        have e56 := hF 4 (det 56 _) (.tail _ (.tail _ (.head _)))
        have e57 := hF 5 (det 57 _) (.tail _ (.head _))
        have f58 := hF 6 _ (.head _)
        obtain ⟨g, e58, hg⟩ := f58
        rw [AllEq.frame (D := [52, 53, 54, 55, 56, 57, 58]) (AllEq.cons e52 (AllEq.cons e53 (AllEq.cons e54 (AllEq.cons e55 (AllEq.cons e56 (AllEq.cons e57 (AllEq.cons e58 (AllEq.nil)))))))) hE rfl]
        clear hF hE e52 e53 e54 e55 e56 e57 e58
        simp only [List.foldl_cons, List.foldl_nil, Act.put, List.setIfInBounds_toArray, List.set_cons_succ, List.set_cons_zero]
        simp only [List.length_cons, List.length_nil, Nat.zero_add, Nat.reduceAdd, List.drop_succ_cons, List.drop_zero, List.drop_nil, tailOps]
        have OR8 : ORow wa.heap.size wa [lfB w4.heap.size lv v, rdB w1.heap.size st2, lfB wa.heap.size 0 (.slice none 0 0)] 98 2 v j XS w8 := by
          have h : ORow wa.heap.size wa [lfB w4.heap.size lv v, rdB w1.heap.size (if lx 4 = true then st2 else st1), lfB wa.heap.size 0 (.slice none 0 0)] 98 2 v j XS w8 := OR8
          rw [hL 4 (by simp)] at h
          exact h
        clear hL OR
        refine ORow.append OR8 _ _ 45 rfl i0 _ 16 Tryz.underlying45 hi hz0 hz1 hz2 rfl (by decide) rfl g 1 1 [.int .u64 K1, .int .u64 K2] rfl 98 hg rfl (by simp [Value.oneCell']) hjm hjb (fun v' w9 OR9 _ => ?_)
        rw [hfl] at OR9
        obtain ⟨B', cap', rfl⟩ := OR9.slice
        clear OR8 hg
        have q1 := OR9.own.all.1.cell 1
        have f1 := OR9.own.all.1.frozen 1
        refine Z1a (by simp [go_sem]; exact ⟨rfl, rfl⟩) ?_
        refine Z1o (by simp [go_sem, q1, f1]; rfl) ?_
        have OR10 := OR9.set (L1 := []) rfl 1 (.slice B' (j + 1) cap')
        rw [← HS2.out] at OR10
        clear OR9 q1 f1
        go_wp2_with fail
        go_roundw
        case rel => exact ⟨j + 1, _, by omega, by go_num, OR10⟩
        case measure => simp [intOf]; omega
      obtain rfl : j = N := by omega
      have hrz : (rst bs (4 + 16 * j)).1.length ≤ 1000000 := by have := Z0s bs (4 + 16 * j); omega
      obtain ⟨Z, hZ⟩ : ∃ Z, (rst bs (4 + 16 * j)).1.all (· == 0) = Z := ⟨_, rfl⟩
      have CZ := Z3c OR (L1 := [lfB w4.heap.size lv v]) rfl hrz Z hZ
      have HCZ := Lib.hid CZ
      have hZZ := Lib.hid hZ
      clear CZ hZ OR
      have HC3 : Hid (C = false) := HC
      cases Z
      ·
        go_wp2_with fail
        refine HCZ.out.mono ?_
        rintro e w7 ⟨rfl, OR2⟩
        have OR2 : ORow wa.heap.size wa [lfB w4.heap.size lv v, rdB w1.heap.size ([], (rst bs (4 + 16 * j)).2), lfB wa.heap.size 0 (.slice none 0 0)] 98 2 v j ((pairsAt bs j).flatMap pairC) w7 := OR2
        clear HCZ
        have hR0 := OR2.own.all.2.2.1
        have p0 := hR0.cell 0
        have p1 := hR0.cell 1
        have fr0 := hR0.frozen 0
        have fr1 := hR0.frozen 1
        go_wp2_with fail
        have O3 := (OR2.own.set (L1 := [_, _]) rfl 0 (.int .i64 0)).set (L1 := [_, _]) rfl 1 (.slice none 0 0)
        exact Z14 (lv := 0) (v := .slice none 0 0) (x := 3) rfl rfl rfl O3.all.2.2.1 ⟨O3.below, fun _ => rfl, fun h => by rw [HC3.out] at h; cases h⟩
      ·
        go_wp2_with fail
        refine HCZ.out.mono ?_
        rintro e w7 ⟨rfl, OR2⟩
        have OR2 : ORow wa.heap.size wa [lfB w4.heap.size lv v, rdB w1.heap.size ([], (rst bs (4 + 16 * j)).2), lfB wa.heap.size 0 (.slice none 0 0)] 98 2 v j ((pairsAt bs j).flatMap pairC) w7 := OR2
        clear HCZ
        have hR0 := OR2.own.all.2.2.1
        have p0 := hR0.cell 0
        have p1 := hR0.cell 1
        have fr0 := hR0.frozen 0
        have fr1 := hR0.frozen 1
        go_wp2_with fail
        have O3 := (OR2.own.set (L1 := [_, _]) rfl 0 (.int .i64 0)).set (L1 := [_, _]) rfl 1 (.slice none 0 0)
        exact Z14 (lv := 0) (v := .slice none 0 0) (x := 3) rfl rfl rfl O3.all.2.2.1 ⟨O3.below, fun _ => rfl, fun h => by rw [HC3.out] at h; cases h⟩
end Go.Proofs.YtakkhglbdljfiaaGreatDoor

/- tierceref05: Good (plain). -/
namespace Go.Proofs.YtakkhglbdljfiaaGreatDoor
set_option linter.unusedVariables false
set_option linter.unusedSimpArgs false
open Go.RowKit

def valAt (xs : List (Nat × Nat)) (i : Nat) : Nat := (xs.getD i (0, 0)).2
/-- A pair may stand there. -/
def okAt (lv : Int) (xs : List (Nat × Nat)) (i : Nat) : Prop := (i = 0 ∨ keyAt xs (i - 1) < keyAt xs i) ∧ (lv ≤ 0 ∨ farB (valAt xs i) = false)
theorem Z5f (lv : Int) (xs : List (Nat × Nat)) : goodB lv xs = true ↔ (0 ≤ lv ∧ lv < 8 ∧ xs.length ≤ 15) ∧ (lv ≤ 0 ∨ 0 < xs.length) ∧ ∀ i, i < xs.length → okAt lv xs i := by
  have hany : (xs.any (fun x => farB x.2) = false) ↔ ∀ i, i < xs.length → farB (valAt xs i) = false := by
    rw [List.any_eq_false]
    constructor
    · intro h i hi
      have := h xs[i] (List.getElem_mem hi)
      simpa [valAt, List.getD, hi] using this
    · intro h x hx
      obtain ⟨i, hi, rfl⟩ := List.getElem_of_mem hx
      have := h i hi
      simpa [valAt, List.getD, hi] using this
  unfold goodB riseB okAt
  simp only [Bool.and_eq_true, Bool.or_eq_true, decide_eq_true_eq, Bool.not_eq_true', hany]
  constructor
  · rintro ⟨h1, h2, h3⟩
    refine ⟨h1, ?_, fun i hi => ⟨?_, ?_⟩⟩
    · rcases h3 with h3 | h3
      · exact .inl (by omega)
      · exact .inr h3.1
    · by_cases h0 : i = 0
      · exact .inl h0
      · have := h2 (i - 1) (by omega) (by omega)
        rw [show i - 1 + 1 = i by omega] at this
        exact .inr this
    · rcases h3 with h3 | h3
      · exact .inl (by omega)
      · exact .inr (h3.2 i hi)
  · rintro ⟨h1, h2, h3⟩
    refine ⟨h1, fun i hi hi2 => ?_, ?_⟩
    · rcases (h3 (i + 1) hi2).1 with h | h
      · omega
      · exact h
    · by_cases h0 : lv = 0
      · exact .inl h0
      · refine .inr ⟨by omega, fun i hi => ?_⟩
        rcases (h3 i hi).2 with h | h
        · omega
        · exact h
end Go.Proofs.YtakkhglbdljfiaaGreatDoor
