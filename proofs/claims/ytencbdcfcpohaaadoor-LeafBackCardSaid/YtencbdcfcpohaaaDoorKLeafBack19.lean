/- leaf: Read of any text, the reference's too; what was written is read as it was; plain. -/
import Derived.Test.YtencbdcfcpohaaaDoorKLeafBack18
import Derived.Test.YtencbdcfcpohaaaDoorKLeafBack09
import Derived.Test.YtencbdcfcpohaaaDoorKLeafBack06
import Derived.Test.YtencbdcfcpohaaaDoorKLeafBack02
import Derived.RegionTactic
namespace Go.Proofs.YtencbdcfcpohaaaDoor
set_option linter.unusedVariables false
set_option linter.unusedSimpArgs false
open Go.RowKit

theorem readC_eq (l : List UInt8) (hl : l.length = 256) (ho : sealL (l.take 252) = l) : readC l = readB l := (page_is l hl ho).symm
theorem lread_any (s : ByteArray) (w : World) (hs : s.size ≤ 1000000) (bs : List UInt8) (hbs : s.data.toList = bs) :
    Calls Tryd.prog 30 #[.string s] w fun e w' => Ext w w' ∧ (readB bs = false → e = .returned (.tuple #[.agg #[.int .i64 0, .slice none 0 0], .int .i64 3])) ∧
      (readB bs = true → ∃ B cap, e = .returned (.tuple #[.agg #[.int .i64 (lvAt bs : Nat), .slice B (cntAt bs) cap], .int .i64 0]) ∧ cntAt bs ≤ cap ∧ cap ≤ maxLen ∧ Row w' B 2 pairC (pairsAt bs (cntAt bs))) := by
  subst hbs
  have hlen : s.data.toList.length = s.size := by simp
  have shut : readB s.data.toList = false → ((∀ W : World, Calls Tryd.prog 47 #[.string s] W fun e w' => e = .returned (.tuple #[.string ⟨#[]⟩, .bool false]) ∧ Ext W w') ∨ (s.size ≠ 256 ∧ ∃ T, ∀ W : World, Calls Tryd.prog 47 #[.string s] W fun e w' => e = .returned (.tuple #[.string T, .bool true]) ∧ Ext W w')) →
      Calls Tryd.prog 30 #[.string s] w fun e w' => Ext w w' ∧ (readB s.data.toList = false → e = .returned (.tuple #[.agg #[.int .i64 0, .slice none 0 0], .int .i64 3])) ∧
      (readB s.data.toList = true → ∃ B cap, e = .returned (.tuple #[.agg #[.int .i64 (lvAt s.data.toList : Nat), .slice B (cntAt s.data.toList) cap], .int .i64 0]) ∧ cntAt s.data.toList ≤ cap ∧ cap ≤ maxLen ∧ Row w' B 2 pairC (pairsAt s.data.toList (cntAt s.data.toList))) := fun hb h => by
    refine (lread_shut s w h).mono ?_
    rintro e w' ⟨rfl, R⟩
    exact ⟨R, fun _ => rfl, fun h => by rw [hb] at h; cases h⟩
  by_cases h4 : s.size < 4
  · exact shut (page_shut _ (fun h => by omega)) (.inl fun W => open_short s W h4)
  · by_cases ho : sealL (s.data.toList.take (s.size - 4)) = s.data.toList
    · have hO := fun W => open_yes s W (by omega) (by omega) ho
      by_cases h256 : s.size = 256
      · rw [h256] at ho hO
        have := lread_open s _ w hO h256 s.data.toList (by omega) rfl
        rw [readC_eq _ (by omega) ho] at this
        exact this
      · exact shut (page_shut _ (fun h => by omega)) (.inr ⟨h256, _, hO⟩)
    · refine shut (page_shut _ (fun h => ?_)) (.inl fun W => open_no s W (by omega) (by omega) ho)
      rw [show s.size = 256 by omega] at ho
      exact ho h.2
theorem rlread_any (s : ByteArray) (w : World) (bs : List UInt8) (hbs : s.data.toList = bs) :
    Calls Tryd.prog 31 #[.string s] w fun e w' => Ext w w' ∧ (readB bs = false → e = .returned (.tuple #[.agg #[.int .i64 0, .slice none 0 0], .bool false])) ∧
      (readB bs = true → ∃ B cap, e = .returned (.tuple #[.agg #[.int .i64 (lvAt bs : Nat), .slice B (cntAt bs) cap], .bool true]) ∧ cntAt bs ≤ cap ∧ cap ≤ maxLen ∧ Row w' B 2 pairC (pairsAt bs (cntAt bs))) := by
  by_cases h : s.size = 256
  · exact rlread_256 s w h bs hbs
  · have hlen : s.data.toList.length = s.size := by simp
    rw [hbs] at hlen
    have hb : readB bs = false := page_shut _ (fun h => by omega)
    refine (rlread_short s w h).mono ?_
    rintro e w' ⟨rfl, R⟩
    exact ⟨R, fun _ => rfl, fun h => by rw [hb] at h; cases h⟩

theorem pairsL_inj : ∀ (xs ys : List (Nat × Nat)), xs.length = ys.length → (∀ x ∈ xs, x.1 < 18446744073709551616 ∧ x.2 < 18446744073709551616) → (∀ x ∈ ys, x.1 < 18446744073709551616 ∧ x.2 < 18446744073709551616) → pairsL xs = pairsL ys → xs = ys
  | [], [], _, _, _, _ => rfl
  | [], _ :: _, h, _, _, _ => by simp at h
  | _ :: _, [], h, _, _, _ => by simp at h
  | x :: xs, y :: ys, h, hx, hy, he => by
    unfold pairsL at he
    obtain ⟨h1, h2⟩ := List.append_inj he (by simp [le_length])
    obtain ⟨h3, h4⟩ := List.append_inj h2 (by simp [le_length])
    have e1 := congrArg numL h1
    have e2 := congrArg numL h3
    have bx := hx x (by simp)
    have bY := hy y (by simp)
    have p8 : (256 : Nat) ^ 8 = 18446744073709551616 := by decide
    rw [numL_le _ _ (by omega), numL_le _ _ (by omega)] at e1 e2
    rw [Prod.ext e1 e2, pairsL_inj xs ys (by simpa using h) (fun z hz => hx z (by simp [hz])) (fun z hz => hy z (by simp [hz])) h4]
/-- What was written is read as it was. -/
theorem page_back (lv : Nat) (xs : List (Nat × Nat)) (hg : goodB lv xs = true) (hx : ∀ x ∈ xs, x.1 < 18446744073709551616 ∧ x.2 < 18446744073709551616) (l : List UInt8) (hl : sealL (leafL lv xs) = l) :
    lvAt l = lv ∧ cntAt l = xs.length ∧ pairsAt l (cntAt l) = xs ∧ readB l = true := by
  have hgg := (goodB_iff lv xs).1 hg
  have h15 : xs.length ≤ 15 := hgg.1.2.2
  have h8 : lv < 8 := by omega
  have hlen : l.length = 256 := by rw [← hl]; exact sealed_length lv xs h15
  have hform : ∃ R, l = [76, UInt8.ofNat lv, UInt8.ofNat xs.length, 0] ++ (pairsL xs ++ R) := by
    rw [← hl]
    unfold sealL
    rw [leafL_eq]
    refine ⟨List.replicate (248 - 16 * xs.length) 0 ++ le (crcSum (hdL lv xs.length ++ pairsL xs ++ List.replicate (248 - 16 * xs.length) 0)) 4, ?_⟩
    have : hdL lv xs.length = [76, UInt8.ofNat lv, UInt8.ofNat xs.length, 0] := by simp [hdL, le]
    rw [this]
    simp
  obtain ⟨R, hR⟩ := hform
  have e1 : lvAt l = lv := by
    unfold lvAt
    rw [hR]
    simp
    omega
  have e2 : cntAt l = xs.length := by
    unfold cntAt
    rw [hR]
    simp
    omega
  have e3 : pairsAt l (cntAt l) = xs := by
    refine pairsL_inj _ _ (by rw [pairsAt_length, e2]) (pairsAt_lt l _) hx ?_
    rw [pairs_read l _ (by rw [e2, hlen]; omega), e2, hR]
    show ((pairsL xs ++ R).take (16 * xs.length)) = pairsL xs
    exact List.take_left' (by rw [pairsL_length])
  refine ⟨e1, e2, e3, ?_⟩
  unfold readB
  rw [e3, e1, decide_eq_true hlen, hg, decide_eq_true hl]
  rfl
theorem page_inj (lv lv' : Nat) (xs ys : List (Nat × Nat)) (hg : goodB lv xs = true) (hg' : goodB lv' ys = true) (hx : ∀ x ∈ xs, x.1 < 18446744073709551616 ∧ x.2 < 18446744073709551616) (hy : ∀ x ∈ ys, x.1 < 18446744073709551616 ∧ x.2 < 18446744073709551616) :
    sealL (leafL lv xs) = sealL (leafL lv' ys) ↔ lv = lv' ∧ xs = ys := by
  constructor
  · intro h
    obtain ⟨a1, a2, a3, _⟩ := page_back lv xs hg hx _ rfl
    obtain ⟨b1, b2, b3, _⟩ := page_back lv' ys hg' hy _ h.symm
    exact ⟨a1.symm.trans b1, a3.symm.trans b3⟩
  · rintro ⟨rfl, rfl⟩; rfl
theorem row_of_blk {E : Type} {enc : E → List Value} {c : Nat} (hc : ∀ x, (enc x).length = c) {w : World} {g : Nat} {t : TypeId} {xs : List E} (h : Blk w g t (xs.flatMap enc).toArray) : Row w (some ⟨g, 0, none⟩) c enc xs := fun i x hx =>
  ⟨g, 0, rfl, h.lt, fun j u hu => by
    rw [Nat.zero_add, h.cell]
    simpa using flat_get hc xs i x j u hx hu⟩
end Go.Proofs.YtencbdcfcpohaaaDoor

/- tiercelaw05: awake. -/
namespace Go.Proofs.YtencbdcfcpohaaaDoor
set_option linter.unusedVariables false
set_option linter.unusedSimpArgs false
open Go.RowKit

def twoP : List (Nat × Nat) := [(5, 1), (9, 2)]
theorem two_good : goodB ((0 : Nat) : Int) twoP = true := by decide
theorem two_lt : ∀ x ∈ twoP, x.1 < 18446744073709551616 ∧ x.2 < 18446744073709551616 := by decide
theorem two_above (n k : Nat) (h : ∀ i, i < twoP.length → n ≤ i → k ≤ keyAt twoP i) : ∀ i, n ≤ i → i < twoP.length → k ≤ keyAt twoP i := fun i h1 h2 => h i h2 h1
theorem two_place9 : Place twoP 9 1 := ⟨by decide, by decide, two_above 1 9 (by decide)⟩
theorem two_place8 : Place twoP 8 1 := ⟨by decide, by decide, two_above 1 8 (by decide)⟩
theorem two_place4 : Place twoP 4 0 := ⟨by decide, by decide, two_above 0 4 (by decide)⟩

set_option maxRecDepth 100000 in
set_option maxHeartbeats 4000000 in
theorem awake5 (w : World) : Calls Tryd.prog 25 #[] w fun e w' => e = .returned (.bool true) ∧ Ext w w' := by
  obtain ⟨q, hq⟩ : ∃ q : ByteArray, (⟨(sealL (leafL 0 twoP)).toArray⟩ : ByteArray) = q := ⟨_, rfl⟩
  have hqs : q.size = 256 := by rw [← hq, mk_size]; exact sealed_length 0 twoP (by decide)
  have hql : q.data.toList = sealL (leafL 0 twoP) := by rw [← hq]
  have h5 : ((q.extract 0 5).toList == [76, 0, 2, 0, 5]) = true := by
    rw [beq_iff_eq, ByteArray.toList_eq, cut_data q 5 (by omega), hql]
    unfold sealL
    rw [leafL_eq, hdL_eq]
    rfl
  have HB := Lib.hid (fun (W : World) (A : Option Addr) (h : Row W A 2 pairC twoP) => lbytes_yes 0 A 2 2 twoP W rfl h two_lt two_good)
  rw [hq] at HB
  obtain ⟨b1, b2, b3, b4⟩ := page_back 0 twoP two_good two_lt _ rfl
  have HR := Lib.hid (fun W => lread_any q W (by omega) _ hql)
  rw [b1, b3, b2] at HR
  have b2' : twoP.length = 2 := rfl
  rw [b2'] at HR
  have O0 := (Own.start w).new 72 #[.int .u64 5, .int .u64 1, .int .u64 9, .int .u64 2]
  have O1 : Own w.heap.size w [(w.heap.size + 1, 60, #[.int .i64 0, .slice (some ⟨w.heap.size, 0, none⟩) 2 2]), (w.heap.size, 72, #[.int .u64 5, .int .u64 1, .int .u64 9, .int .u64 2])] ((w.alloc (.cells #[.int .u64 5, .int .u64 1, .int .u64 9, .int .u64 2] 72)).alloc (.cells #[.int .i64 0, .slice (some ⟨w.heap.size, 0, none⟩) 2 2] 60)) := by
    have := O0.new 60 #[.int .i64 0, .slice (some ⟨w.heap.size, 0, none⟩) 2 2]
    simpa using this
  have q0 := O1.all.1.cell 0
  have q1 := O1.all.1.cell 1
  clear O0 hq hql b1 b2 b3 b2'
  have hrow : ∀ (W : World) (h : Ext ((w.alloc (.cells #[.int .u64 5, .int .u64 1, .int .u64 9, .int .u64 2] 72)).alloc (.cells #[.int .i64 0, .slice (some ⟨w.heap.size, 0, none⟩) 2 2] 60)) W), Row W (some ⟨w.heap.size, 0, none⟩) 2 pairC twoP := fun W h => row_of_blk (E := Nat × Nat) (enc := pairC) (xs := twoP) (fun _ => rfl) (O1.ext h).all.2.1
  have HW := Lib.hid hrow
  clear hrow
  go_enter Tryd.func25, Tryd.ntmps25
  go_wp2_with fail
  refine (HB.out _ _ (HW.out _ (Ext.refl _))).mono ?_
  rintro e w1 ⟨rfl, R1⟩
  have O2 := O1.ext R1
  clear O1 q0 q1
  go_wp2_with fail
  refine (HR.out _).mono ?_
  rintro e w2 ⟨R2, -, hyes⟩
  obtain ⟨B, cap, rfl, hc1, hc2, hrow2⟩ := hyes b4
  have R12 := R1.trans R2
  have O3 := (O2.ext R2).new 60 #[.int .i64 0, .slice B 2 cap]
  have hrow3 := hrow2.ext (Ext.alloc w2 (.cells #[.int .i64 0, .slice B 2 cap] 60))
  have R3 := R12.trans (Ext.alloc w2 (.cells #[.int .i64 0, .slice B 2 cap] 60))
  have HO3 := Lib.hid O3
  have HR3 := Lib.hid R3
  have HROW := Lib.hid hrow3
  have q0 := O3.all.2.1.cell 0
  have q1 := O3.all.2.1.cell 1
  clear O2 O3 R1 R2 R12 R3 hrow2 hrow3 HB HR b4 hc1 hc2 hyes
  go_wp2_with fail
  have C9 := find_any 0 (some ⟨w.heap.size, 0, none⟩) 2 2 twoP _ rfl (by decide) (HW.out _ HR3.out) 9 1 two_place9
  rw [show decide (1 < 2 ∧ keyAt twoP 1 = 9) = true by decide] at C9
  refine C9.mono ?_
  rintro e w3 ⟨rfl, R4⟩
  have HO4 := Lib.hid (HO3.out.ext R4)
  have HR4 := Lib.hid (HR3.out.trans R4)
  have HROW4 := Lib.hid (HROW.out.ext R4)
  clear C9 HO3 HR3 HROW R4 q0 q1
  generalize w2.heap.size = X4 at HO4
  have q0 := HO4.out.all.2.1.cell 0
  have q1 := HO4.out.all.2.1.cell 1
  have p0 := HO4.out.all.1.cell 0
  have p1 := HO4.out.all.1.cell 1
  go_wp2_with fail
  have CS := same_any 0 0 (some ⟨w.heap.size, 0, none⟩) B 2 2 2 cap twoP twoP w3 rfl rfl (by decide) (by decide) (HW.out _ HR4.out) HROW4.out
  rw [show decide ((0 : Int) = 0 ∧ twoP = twoP) = true by decide] at CS
  refine CS.mono ?_
  rintro e w4 ⟨rfl, R5⟩
  have HO5 := Lib.hid (HO4.out.ext R5)
  have HR5 := Lib.hid (HR4.out.trans R5)
  clear CS HO4 HR4 HROW4 R5 q0 q1 p0 p1
  have q0 := HO5.out.all.2.1.cell 0
  have q1 := HO5.out.all.2.1.cell 1
  go_wp2_with fail
  have C8 := child_any 0 (some ⟨w.heap.size, 0, none⟩) 2 2 twoP _ rfl (by decide) (HW.out _ HR5.out) 8 1 two_place8
  rw [show (if 1 < 2 ∧ keyAt twoP 1 = 8 then ((1 : Nat) : Int) else ((1 : Nat) : Int) - 1) = 0 by decide] at C8
  refine C8.mono ?_
  rintro e w5 ⟨rfl, R6⟩
  have HO6 := Lib.hid (HO5.out.ext R6)
  have HR6 := Lib.hid (HR5.out.trans R6)
  clear C8 HO5 HR5 R6 q0 q1
  have q0 := HO6.out.all.2.1.cell 0
  have q1 := HO6.out.all.2.1.cell 1
  go_wp2_with fail
  have C4 := child_any 0 (some ⟨w.heap.size, 0, none⟩) 2 2 twoP _ rfl (by decide) (HW.out _ HR6.out) 4 0 two_place4
  rw [show (if 0 < 2 ∧ keyAt twoP 0 = 4 then ((0 : Nat) : Int) else ((0 : Nat) : Int) - 1) = -1 by decide] at C4
  refine C4.mono ?_
  rintro e w6 ⟨rfl, R7⟩
  have HO7 := Lib.hid (HO6.out.ext R7)
  clear C4 HO6 HR6 R7 q0 q1 HW
  go_wp2_with fail
  go_ret
  exact ⟨rfl, HO7.out.below⟩
end Go.Proofs.YtencbdcfcpohaaaDoor

/- A node as an argument. -/
namespace Go.Proofs.YtencbdcfcpohaaaDoor
set_option linter.unusedVariables false
set_option linter.unusedSimpArgs false
open Go.RowKit

theorem cells_pair : Tryd.prog.cellsOf 72 = 2 := by kernel_rfl
theorem cells_leaf : Tryd.prog.cellsOf 60 = 2 := by kernel_rfl
theorem cells_li : Tryd.prog.cellsOf 3 = 1 := by kernel_rfl
theorem cells_lu : Tryd.prog.cellsOf 31 = 1 := by kernel_rfl
theorem cells_ls : Tryd.prog.cellsOf 58 = 1 := by kernel_rfl
theorem fit_pair {w : World} {cs : List Value} (hf : Fit Tryd.prog w 72 cs) : ∃ x : Nat × Nat, cs = pairC x ∧ (x.1 < 18446744073709551616 ∧ x.2 < 18446744073709551616) := by
  obtain ⟨hl, hx⟩ := fit_fields 2 Tryd.underlying72 cells_pair hf
  obtain ⟨a, e0, w0⟩ := cell_int Tryd.underlying31 (hx 0 0 31 1 rfl cells_lu)
  obtain ⟨b, e1, w1⟩ := cell_int Tryd.underlying31 (hx 1 1 31 1 rfl cells_lu)
  have ha := bounds_u64 w0
  have hb := bounds_u64 w1
  obtain ⟨m, rfl⟩ : ∃ m : Nat, a = m := ⟨a.toNat, by omega⟩
  obtain ⟨n, rfl⟩ : ∃ m : Nat, b = m := ⟨b.toNat, by omega⟩
  exact ⟨(m, n), list2_of hl e0 e1, by show m < _; omega, by show n < _; omega⟩
theorem arg_leaf {w : World} {v : Value} (h : Arg Tryd.prog w 60 v) :
    ∃ (lv : Int) (A : Option Addr) (len cap : Nat) (xs : List (Nat × Nat)), v = .agg #[.int .i64 lv, .slice A len cap] ∧ len ≤ cap ∧ cap ≤ maxLen ∧ xs.length = len ∧ (∀ x ∈ xs, x.1 < 18446744073709551616 ∧ x.2 < 18446744073709551616) ∧ Row w A 2 pairC xs := by
  obtain ⟨cs, rfl, hf⟩ := arg_struct Tryd.underlying60 h
  obtain ⟨hl, hx⟩ := fit_fields 2 Tryd.underlying60 cells_leaf hf
  obtain ⟨lv, e0, _⟩ := cell_int Tryd.underlying3 (hx 0 0 3 1 rfl cells_li)
  have h1 := hx 1 1 58 1 rfl cells_ls
  obtain ⟨v, hv⟩ : ∃ v, (cs.drop 1).take 1 = [v] := by
    match cs, hl with
    | [x0, x1], _ => exact ⟨x1, rfl⟩
  rw [hv] at h1
  obtain ⟨A, len, cap, xs, rfl, g1, g2, g3, g4, g5⟩ := fit_row pairC (fun x => x.1 < 18446744073709551616 ∧ x.2 < 18446744073709551616) Tryd.underlying58 cells_pair (by decide) (fun _ _ hf => fit_pair hf) h1
  have e1 := take1_drop hv
  rw [list2_of hl e0 e1]
  exact ⟨lv, A, len, cap, xs, rfl, g1, g2, g3, g4, g5⟩
end Go.Proofs.YtencbdcfcpohaaaDoor

/- LeafBack: what was written is read as it was; unlike nodes have unlike pages; what was turned within four bytes isn't read. -/
namespace Go.Proofs.YtencbdcfcpohaaaDoor
set_option linter.unusedVariables false
set_option linter.unusedSimpArgs false
open Go.RowKit Go.ChangeShapes Go.WideShapes Go.ChangeAt

theorem xor_turn5 (x : UInt8) (M j : Nat) : bits .xor .u8 (x.toNat : Int) ((M : Int) / 2 ^ (8 * j) % 256) = ((x ^^^ UInt8.ofNat (M / 256 ^ j)).toNat : Int) := by
  rw [byte_shift, u8_xor_nat _ _ x.toNat_lt (UInt8.toNat_lt _), UInt8.toNat_xor]
/-- A page that was turned within four bytes is no node's. -/
theorem page_turned (lv : Nat) (xs : List (Nat × Nat)) (h15 : xs.length ≤ 15) (k M : Nat) (hk : k ≤ 252) (hM : M < 4294967296) (h0 : M ≠ 0) : readB (turnTo (sealL (leafL lv xs)) k M 4) = false := by
  refine page_shut _ (fun h => ?_)
  have hl := leafL_length lv xs h15
  have hx := turned_closed (leafL lv xs) k M (by omega) hM h0
  apply hx
  have h2 := h.2
  rw [turnTo_xor _ (leafL lv xs).length k M (by rw [sealL_length]) (by omega)] at h2
  rw [hl]
  rw [hl] at h2
  exact h2
set_option maxRecDepth 100000 in
set_option maxHeartbeats 8000000 in
theorem leafBack_core (lv lv' : Int) (A A' : Option Addr) (len cap len' cap' : Nat) (xs ys : List (Nat × Nat)) (at_ : Int) (M : Nat) (w : World) (hlen : xs.length = len) (hlen' : ys.length = len') (hm : len ≤ maxLen) (hm' : len' ≤ maxLen) (hrow : Row w A 2 pairC xs) (hrow' : Row w A' 2 pairC ys) (hx : ∀ x ∈ xs, x.1 < 18446744073709551616 ∧ x.2 < 18446744073709551616) (hy : ∀ x ∈ ys, x.1 < 18446744073709551616 ∧ x.2 < 18446744073709551616) (hM : M < 4294967296) :
    Calls Tryd.prog 9 #[.agg #[.int .i64 lv, .slice A len cap], .agg #[.int .i64 lv', .slice A' len' cap'], .int .i64 at_, .int .u32 M] w fun e w' => e = .returned (.bool true) ∧ Ext w w' := by
  unfold maxLen at hm hm'
  have hE := (Ext.alloc w (.cells #[.int .i64 lv, .slice A len cap] 60)).trans (Ext.alloc _ (.cells #[.int .i64 lv', .slice A' len' cap'] 60))
  have hX : Blk ((w.alloc (.cells #[.int .i64 lv, .slice A len cap] 60)).alloc (.cells #[.int .i64 lv', .slice A' len' cap'] 60)) w.heap.size 60 #[.int .i64 lv, .slice A len cap] := (Blk.new _ _ _).alloc _
  have hY : Blk ((w.alloc (.cells #[.int .i64 lv, .slice A len cap] 60)).alloc (.cells #[.int .i64 lv', .slice A' len' cap'] 60)) (w.heap.size + 1) 60 #[.int .i64 lv', .slice A' len' cap'] := blk_new (by simp)
  go_enter Tryd.func9, Tryd.ntmps9
  go_wp2_with fail
  refine (awake5 _).mono ?_
  rintro e w1 ⟨rfl, R1⟩
  have hX1 := hX.ext R1
  have hY1 := hY.ext R1
  have HX := Lib.hid (fun (W : World) (h : Ext w1 W) => hX1.ext h)
  have HY := Lib.hid (fun (W : World) (h : Ext w1 W) => hY1.ext h)
  have HR0 := Lib.hid (hE.trans R1)
  have hrow1 := (hrow.ext hE).ext R1
  have hrow2 := (hrow'.ext hE).ext R1
  have HROW := Lib.hid (fun (W : World) (h : Ext w1 W) => hrow1.ext h)
  have HROW' := Lib.hid (fun (W : World) (h : Ext w1 W) => hrow2.ext h)
  have q0 := hX1.cell 0
  have q1 := hX1.cell 1
  have p0 := hY1.cell 0
  have p1 := hY1.cell 1
  clear hX hE hrow R1 hX1 hrow1 hY hY1 hrow' hrow2
  by_cases h40 : 40 < len
  · have d40 : decide ((40 : Int) < (len : Int)) = true := by rw [decide_eq_true_iff]; omega
    have hEx := Ext.refl w1
    go_wp2_with fail
    go_ret
    exact ⟨rfl, HR0.out.trans hEx⟩
  · have d40 : decide ((40 : Int) < (len : Int)) = false := by rw [decide_eq_false_iff_not]; omega
    by_cases h40' : 40 < len'
    · have d40' : decide ((40 : Int) < (len' : Int)) = true := by rw [decide_eq_true_iff]; omega
      have hEx := Ext.refl w1
      go_wp2_with fail
      go_ret
      exact ⟨rfl, HR0.out.trans hEx⟩
    · have d40' : decide ((40 : Int) < (len' : Int)) = false := by rw [decide_eq_false_iff_not]; omega
      by_cases hG : goodB lv xs = true
      · by_cases hG' : goodB lv' ys = true
        · have hgg := (goodB_iff lv xs).1 hG
          have hgg' := (goodB_iff lv' ys).1 hG'
          obtain ⟨a, rfl⟩ : ∃ n : Nat, lv = n := ⟨lv.toNat, by omega⟩
          obtain ⟨b, rfl⟩ : ∃ n : Nat, lv' = n := ⟨lv'.toNat, by omega⟩
          have h15 : xs.length ≤ 15 := hgg.1.2.2
          have hslen := sealed_length a xs h15
          have hinj := page_inj a b xs ys hG hG' hx hy
          obtain ⟨c1, c2, c3, c4⟩ := page_back a xs hG hx _ rfl
          have hturn := page_turned a xs h15
          have C1 := fun (W : World) (h : Ext w1 W) => lbytes_yes a A len cap xs W hlen (HROW.out W h) hx hG
          have C2 := fun (W : World) (h : Ext w1 W) => lbytes_yes b A' len' cap' ys W hlen' (HROW'.out W h) hy hG'
          obtain ⟨L, hL⟩ : ∃ L, sealL (leafL a xs) = L := ⟨_, rfl⟩
          obtain ⟨L', hL'⟩ : ∃ L, sealL (leafL b ys) = L := ⟨_, rfl⟩
          rw [hL] at hslen hinj c1 c2 c3 c4 hturn C1
          rw [hL'] at hinj C2
          clear hL hL'
          obtain ⟨q, hq⟩ : ∃ q : ByteArray, (⟨L.toArray⟩ : ByteArray) = q := ⟨_, rfl⟩
          obtain ⟨q', hq'⟩ : ∃ q : ByteArray, (⟨L'.toArray⟩ : ByteArray) = q := ⟨_, rfl⟩
          rw [hq] at C1
          rw [hq'] at C2
          have hqs : q.size = 256 := by rw [← hq, mk_size]; exact hslen
          have hql : q.data.toList = L := by rw [← hq]
          have hql' : q'.data.toList = L' := by rw [← hq']
          have heq0 : (q.toList == q'.toList) = decide ((a : Int) = (b : Int) ∧ xs = ys) := by
            rw [ByteArray.toList_eq, ByteArray.toList_eq, hql, hql']
            by_cases h : L = L'
            · obtain ⟨h1, h2⟩ := hinj.1 h
              rw [beq_iff_eq.2 h, decide_eq_true ⟨by omega, h2⟩]
            · rw [beq_eq_false_iff_ne.2 h, decide_eq_false]
              rintro ⟨h1, h2⟩
              exact h (hinj.2 ⟨by omega, h2⟩)
          have Heq := Lib.hid heq0
          clear heq0
          have CL := Lib.hid C1
          have CM := Lib.hid C2
          have CR := Lib.hid (fun W => lread_any q W (by omega) L hql)
          rw [c1, c2] at CR
          rw [c2] at c3
          rw [c3] at CR
          rw [hlen] at CR
          have HC4 := Lib.hid c4
          have HT := Lib.hid hturn
          have HQL := Lib.hid hql
          have HSL := Lib.hid hslen
          obtain ⟨k, hk, hk1⟩ := modU at_ 253 (by decide) (by decide)
          have hk2 : k ≤ 252 := by omega
          clear hG hG' hgg hgg' hinj c1 c2 c3 c4 hturn C1 C2 hq hq' hql hql' hslen h15 hk1
          go_wp2_with fail
          refine (CL.out _ (Ext.refl _)).mono ?_
          rintro e w2 ⟨rfl, R2⟩
          clear q0 q1 p0 p1
          have p0 := (HY.out _ R2).cell 0
          have p1 := (HY.out _ R2).cell 1
          go_wp2_with fail
          refine (CM.out _ R2).mono ?_
          rintro e w3 ⟨rfl, R3⟩
          have hEx := R2.trans R3
          clear p0 p1 R2 R3 CL CM
          go_wp2_with fail
          refine (CR.out _).mono ?_
          rintro e w4 ⟨R4, -, hyes⟩
          obtain ⟨B, capr, he, -, -, hrowr⟩ := hyes HC4.out
          subst he
          have hEx4 := hEx.trans R4
          have E5 := Ext.alloc w4 (.cells #[.int .i64 a, .slice B len capr] 60)
          have Z5 := Blk.new w4 60 #[.int .i64 a, .slice B len capr]
          have hrow5 := hrowr.ext E5
          have hEx5 := hEx4.trans E5
          have HZ := Lib.hid (fun (W : World) (h : Ext (w4.alloc (.cells #[.int .i64 a, .slice B len capr] 60)) W) => Z5.ext h)
          have q0 := (HX.out _ hEx5).cell 0
          have q1 := (HX.out _ hEx5).cell 1
          have z0 := Z5.cell 0
          have z1 := Z5.cell 1
          have HEx5 := Lib.hid hEx5
          have HROW5 := Lib.hid hrow5
          clear hyes hEx hEx4 E5 Z5 hrow5 hrowr R4 hEx5 CR
          go_wp2_with fail
          have CS := same_any a a A B len cap len capr xs xs _ hlen hlen (by omega) (by omega) (HROW.out _ HEx5.out) HROW5.out
          rw [decide_eq_true ⟨rfl, rfl⟩] at CS
          refine CS.mono ?_
          rintro e w6 ⟨rfl, R6⟩
          have HEx6 := Lib.hid (HEx5.out.trans R6)
          clear q0 q1 z0 z1 CS HROW5 HEx5 HZ R6
          have q0 := (HX.out _ HEx6.out).cell 0
          have q1 := (HX.out _ HEx6.out).cell 1
          have p0 := (HY.out _ HEx6.out).cell 0
          have p1 := (HY.out _ HEx6.out).cell 1
          have CSS := fun (W : World) (h : Ext w1 W) => same_any a b A A' len cap len' cap' xs ys W hlen hlen' (by omega) (by omega) (HROW.out _ h) (HROW'.out _ h)
          by_cases hab : (a : Int) = (b : Int) ∧ xs = ys
          · have heq := Heq.out
            rw [decide_eq_true hab] at CSS heq
            clear hab
            have HCSS := Lib.hid CSS
            clear CSS Heq
            go_wp2_with fail
            refine (HCSS.out _ HEx6.out).mono ?_
            rintro e w7 ⟨rfl, R7⟩
            have hEx7 := HEx6.out.trans R7
            have hz := hEx7.size
            clear q0 q1 p0 p1 HCSS HEx6 R7
            obtain ⟨c, hc1, hc2, hcv⟩ := conv_row q w7 (by unfold maxLen; omega)
            rw [HQL.out, hqs] at hcv
            rw [hqs] at hc1
            go_wp2_with fail
            go_loopw [17] (fun i wr => ∃ j : Nat, j ≤ 4 ∧ i = .int .i64 j ∧ Bytes wr w7.heap.size (turnTo L k M j) c ∧ Below w1.heap.size w1 wr) (fun i _ => 4 - (intOf i).toNat)
            case atStart => exact ⟨0, by omega, rfl, Bytes.new_, by (repeat (first | with_reducible exact Below.refl _ _ | with_reducible assumption | with_reducible apply Below.drew | with_reducible apply below_drewN | (with_reducible refine below_set ?_ ?_; focus ((try simp); (try omega); done)) | (with_reducible refine below_new ?_ ?_; focus ((try simp); (try omega); done))))⟩
            case round =>
              obtain ⟨j, hj, rfl, hB, hb'⟩ := hrel
              clear hcv hEx7
              have Hlen := Lib.hid (show (turnTo L k M j).length = 256 by rw [turnTo_length]; exact HSL.out)
              by_cases hlt : j < 4
              · have hd : turnTo L k M (j + 1) = (turnTo L k M j).set (k + j) ((turnTo L k M j).getD (k + j) 0 ^^^ UInt8.ofNat (M / 256 ^ j)) := rfl
                have hcell := hB.cell (i := k + j) (by rw [Hlen.out]; omega)
                have hfz := hB.frozen (i := k + j) (by omega)
                have hx := xor_turn5 ((turnTo L k M j).getD (k + j) 0) M j
                have hset := hB.set_ (i := k + j) (by rw [Hlen.out]; omega) ((turnTo L k M j).getD (k + j) 0 ^^^ UInt8.ofNat (M / 256 ^ j))
                rw [← hd] at hset
                generalize (turnTo L k M j).getD (k + j) 0 = x at hcell hx hset
                generalize x ^^^ UInt8.ofNat (M / 256 ^ j) = y at hx hset
                clear hd
                generalize hLj : turnTo L k M (j + 1) = L2 at hset
                have HL := Lib.hid hLj
                have Hset := Lib.hid hset
                have i1 : ((k : Int) + j) < 256 := by omega
                clear hLj hset hB
                go_wp2_with fail
                go_region
                all_goals
                  go_wp2_with fail
                  go_roundw
                  case rel => exact ⟨j + 1, by omega, by go_num, by rw [HL.out]; exact Hset.out.drew, by (repeat (first | with_reducible exact Below.refl _ _ | with_reducible assumption | with_reducible apply Below.drew | with_reducible apply below_drewN | (with_reducible refine below_set ?_ ?_; focus ((try simp); (try omega); done)) | (with_reducible refine below_new ?_ ?_; focus ((try simp); (try omega); done))))⟩
                  case measure => simp [intOf]; omega
              · obtain rfl : j = 4 := by omega
                have hcv2 := hB.conv c 256 Hlen.out
                obtain ⟨u, hu⟩ : ∃ u : ByteArray, (⟨(turnTo L k M 4).toArray⟩ : ByteArray) = u := ⟨_, rfl⟩
                have hul : u.data.toList = turnTo L k M 4 := by rw [← hu]
                have hus : u.size = 256 := by rw [← hu, mk_size]; exact Hlen.out
                rw [hu] at hcv2
                by_cases hM0 : M = 0
                · have hrd : readB (turnTo L k M 4) = true := by rw [hM0, turn_zero]; exact HC4.out
                  have CU := lread_any u wr (by omega) _ hul
                  rw [hrd] at CU
                  have HU := Lib.hid CU
                  have hne : ((M : Int) == 0) = true := by rw [hM0]; rfl
                  clear hu hul CU hM0 hrd hB
                  go_wp2_with fail
                  refine HU.out.mono ?_
                  rintro e w8 ⟨R8, -, hyes⟩
                  obtain ⟨B8, cap8, he, -, -, -⟩ := hyes (by simp)
                  subst he
                  have hEx : Ext w1 w8 := Ext.trans hb' R8
                  have hEx := hEx.trans (Ext.alloc w8 (.cells #[.int .i64 (lvAt (turnTo L k M 4) : Nat), .slice B8 (cntAt (turnTo L k M 4)) cap8] 60))
                  clear hyes HU R8
                  go_wp2_with fail
                  go_ret
                  exact ⟨rfl, HR0.out.trans hEx⟩
                · have hrd : readB (turnTo L k M 4) = false := HT.out k M hk2 hM hM0
                  have CU := lread_any u wr (by omega) _ hul
                  rw [hrd] at CU
                  have HU := Lib.hid CU
                  have hne : ((M : Int) == 0) = false := by simp; exact hM0
                  clear hu hul CU hM0 hrd hB
                  go_wp2_with fail
                  refine HU.out.mono ?_
                  rintro e w8 ⟨R8, hno, -⟩
                  have he := hno (by simp)
                  subst he
                  have hEx : Ext w1 w8 := Ext.trans hb' R8
                  have hEx := hEx.trans (Ext.alloc w8 (.cells #[.int .i64 0, .slice none 0 0] 60))
                  clear hno HU R8
                  go_wp2_with fail
                  go_ret
                  exact ⟨rfl, HR0.out.trans hEx⟩
          · have heq := Heq.out
            rw [decide_eq_false hab] at CSS heq
            clear hab
            have HCSS := Lib.hid CSS
            clear CSS Heq
            go_wp2_with fail
            refine (HCSS.out _ HEx6.out).mono ?_
            rintro e w7 ⟨rfl, R7⟩
            have hEx7 := HEx6.out.trans R7
            have hz := hEx7.size
            clear q0 q1 p0 p1 HCSS HEx6 R7
            obtain ⟨c, hc1, hc2, hcv⟩ := conv_row q w7 (by unfold maxLen; omega)
            rw [HQL.out, hqs] at hcv
            rw [hqs] at hc1
            go_wp2_with fail
            go_loopw [17] (fun i wr => ∃ j : Nat, j ≤ 4 ∧ i = .int .i64 j ∧ Bytes wr w7.heap.size (turnTo L k M j) c ∧ Below w1.heap.size w1 wr) (fun i _ => 4 - (intOf i).toNat)
            case atStart => exact ⟨0, by omega, rfl, Bytes.new_, by (repeat (first | with_reducible exact Below.refl _ _ | with_reducible assumption | with_reducible apply Below.drew | with_reducible apply below_drewN | (with_reducible refine below_set ?_ ?_; focus ((try simp); (try omega); done)) | (with_reducible refine below_new ?_ ?_; focus ((try simp); (try omega); done))))⟩
            case round =>
              obtain ⟨j, hj, rfl, hB, hb'⟩ := hrel
              clear hcv hEx7
              have Hlen := Lib.hid (show (turnTo L k M j).length = 256 by rw [turnTo_length]; exact HSL.out)
              by_cases hlt : j < 4
              · have hd : turnTo L k M (j + 1) = (turnTo L k M j).set (k + j) ((turnTo L k M j).getD (k + j) 0 ^^^ UInt8.ofNat (M / 256 ^ j)) := rfl
                have hcell := hB.cell (i := k + j) (by rw [Hlen.out]; omega)
                have hfz := hB.frozen (i := k + j) (by omega)
                have hx := xor_turn5 ((turnTo L k M j).getD (k + j) 0) M j
                have hset := hB.set_ (i := k + j) (by rw [Hlen.out]; omega) ((turnTo L k M j).getD (k + j) 0 ^^^ UInt8.ofNat (M / 256 ^ j))
                rw [← hd] at hset
                generalize (turnTo L k M j).getD (k + j) 0 = x at hcell hx hset
                generalize x ^^^ UInt8.ofNat (M / 256 ^ j) = y at hx hset
                clear hd
                generalize hLj : turnTo L k M (j + 1) = L2 at hset
                have HL := Lib.hid hLj
                have Hset := Lib.hid hset
                have i1 : ((k : Int) + j) < 256 := by omega
                clear hLj hset hB
                go_wp2_with fail
                go_region
                all_goals
                  go_wp2_with fail
                  go_roundw
                  case rel => exact ⟨j + 1, by omega, by go_num, by rw [HL.out]; exact Hset.out.drew, by (repeat (first | with_reducible exact Below.refl _ _ | with_reducible assumption | with_reducible apply Below.drew | with_reducible apply below_drewN | (with_reducible refine below_set ?_ ?_; focus ((try simp); (try omega); done)) | (with_reducible refine below_new ?_ ?_; focus ((try simp); (try omega); done))))⟩
                  case measure => simp [intOf]; omega
              · obtain rfl : j = 4 := by omega
                have hcv2 := hB.conv c 256 Hlen.out
                obtain ⟨u, hu⟩ : ∃ u : ByteArray, (⟨(turnTo L k M 4).toArray⟩ : ByteArray) = u := ⟨_, rfl⟩
                have hul : u.data.toList = turnTo L k M 4 := by rw [← hu]
                have hus : u.size = 256 := by rw [← hu, mk_size]; exact Hlen.out
                rw [hu] at hcv2
                by_cases hM0 : M = 0
                · have hrd : readB (turnTo L k M 4) = true := by rw [hM0, turn_zero]; exact HC4.out
                  have CU := lread_any u wr (by omega) _ hul
                  rw [hrd] at CU
                  have HU := Lib.hid CU
                  have hne : ((M : Int) == 0) = true := by rw [hM0]; rfl
                  clear hu hul CU hM0 hrd hB
                  go_wp2_with fail
                  refine HU.out.mono ?_
                  rintro e w8 ⟨R8, -, hyes⟩
                  obtain ⟨B8, cap8, he, -, -, -⟩ := hyes (by simp)
                  subst he
                  have hEx : Ext w1 w8 := Ext.trans hb' R8
                  have hEx := hEx.trans (Ext.alloc w8 (.cells #[.int .i64 (lvAt (turnTo L k M 4) : Nat), .slice B8 (cntAt (turnTo L k M 4)) cap8] 60))
                  clear hyes HU R8
                  go_wp2_with fail
                  go_ret
                  exact ⟨rfl, HR0.out.trans hEx⟩
                · have hrd : readB (turnTo L k M 4) = false := HT.out k M hk2 hM hM0
                  have CU := lread_any u wr (by omega) _ hul
                  rw [hrd] at CU
                  have HU := Lib.hid CU
                  have hne : ((M : Int) == 0) = false := by simp; exact hM0
                  clear hu hul CU hM0 hrd hB
                  go_wp2_with fail
                  refine HU.out.mono ?_
                  rintro e w8 ⟨R8, hno, -⟩
                  have he := hno (by simp)
                  subst he
                  have hEx : Ext w1 w8 := Ext.trans hb' R8
                  have hEx := hEx.trans (Ext.alloc w8 (.cells #[.int .i64 0, .slice none 0 0] 60))
                  clear hno HU R8
                  go_wp2_with fail
                  go_ret
                  exact ⟨rfl, HR0.out.trans hEx⟩
        · have hG' : goodB lv' ys = false := by simpa using hG'
          have hgg := (goodB_iff lv xs).1 hG
          obtain ⟨lvn, rfl⟩ : ∃ n : Nat, lv = n := ⟨lv.toNat, by omega⟩
          have CL := Lib.hid (fun (W : World) (h : Ext w1 W) => lbytes_yes lvn A len cap xs W hlen (HROW.out W h) hx hG)
          have CM := Lib.hid (fun (W : World) (h : Ext w1 W) => lbytes_no lv' A' len' cap' ys W hlen' (by omega) (HROW'.out W h) (fun x hh => (hy x hh).1) hG')
          clear hG hG' hgg
          go_wp2_with fail
          refine (CL.out _ (Ext.refl _)).mono ?_
          rintro e w2 ⟨rfl, R2⟩
          clear q0 q1 p0 p1
          have p0 := (HY.out _ R2).cell 0
          have p1 := (HY.out _ R2).cell 1
          go_wp2_with fail
          refine (CM.out _ R2).mono ?_
          rintro e w3 ⟨rfl, R3⟩
          have hEx := R2.trans R3
          clear p0 p1 R2 R3 CL CM
          go_wp2_with fail
          go_ret
          exact ⟨rfl, HR0.out.trans hEx⟩
      · have hG : goodB lv xs = false := by simpa using hG
        have CL := Lib.hid (fun (W : World) (h : Ext w1 W) => lbytes_no lv A len cap xs W hlen (by omega) (HROW.out W h) (fun x hh => (hx x hh).1) hG)
        by_cases hG' : goodB lv' ys = true
        · have hgg := (goodB_iff lv' ys).1 hG'
          obtain ⟨lvn, rfl⟩ : ∃ n : Nat, lv' = n := ⟨lv'.toNat, by omega⟩
          have CM := Lib.hid (fun (W : World) (h : Ext w1 W) => lbytes_yes lvn A' len' cap' ys W hlen' (HROW'.out W h) hy hG')
          clear hG hG' hgg
          go_wp2_with fail
          refine (CL.out _ (Ext.refl _)).mono ?_
          rintro e w2 ⟨rfl, R2⟩
          clear q0 q1 p0 p1
          have p0 := (HY.out _ R2).cell 0
          have p1 := (HY.out _ R2).cell 1
          go_wp2_with fail
          refine (CM.out _ R2).mono ?_
          rintro e w3 ⟨rfl, R3⟩
          have hEx := R2.trans R3
          clear p0 p1 R2 R3 CL CM
          go_wp2_with fail
          go_ret
          exact ⟨rfl, HR0.out.trans hEx⟩
        · have hG' : goodB lv' ys = false := by simpa using hG'
          have CM := Lib.hid (fun (W : World) (h : Ext w1 W) => lbytes_no lv' A' len' cap' ys W hlen' (by omega) (HROW'.out W h) (fun x hh => (hy x hh).1) hG')
          clear hG hG'
          go_wp2_with fail
          refine (CL.out _ (Ext.refl _)).mono ?_
          rintro e w2 ⟨rfl, R2⟩
          clear q0 q1 p0 p1
          have p0 := (HY.out _ R2).cell 0
          have p1 := (HY.out _ R2).cell 1
          go_wp2_with fail
          refine (CM.out _ R2).mono ?_
          rintro e w3 ⟨rfl, R3⟩
          have hEx := R2.trans R3
          clear p0 p1 R2 R3 CL CM
          go_wp2_with fail
          go_ret
          exact ⟨rfl, HR0.out.trans hEx⟩
theorem leafBack_walk (w : World) (v0 v1 v2 v3 : Value) (h0 : Arg Tryd.prog w 60 v0) (h1 : Arg Tryd.prog w 60 v1) (h2 : Arg Tryd.prog w 3 v2) (h3 : Arg Tryd.prog w 77 v3) :
    Calls Tryd.prog 9 #[v0, v1, v2, v3] w fun e w' => e = .returned (.bool true) ∧ Below w.heap.size w w' := by
  obtain ⟨lv, A, len, cap, xs, rfl, hc, hm, g3, g5, g4⟩ := arg_leaf h0
  obtain ⟨lv', A', len', cap', ys, rfl, hc', hm', g3', g5', g4'⟩ := arg_leaf h1
  obtain ⟨a, rfl, _⟩ := arg_int Tryd.underlying3 h2
  obtain ⟨m, rfl, wm⟩ := arg_int Tryd.underlying77 h3
  obtain ⟨m0, m1⟩ := bounds_u32 wm
  obtain ⟨M, rfl⟩ := Int.eq_ofNat_of_zero_le m0
  exact leafBack_core lv lv' A A' len cap len' cap' xs ys a M w g3 g3' (by omega) (by omega) g4 g4' g5 g5' (by omega)
end Go.Proofs.YtencbdcfcpohaaaDoor
