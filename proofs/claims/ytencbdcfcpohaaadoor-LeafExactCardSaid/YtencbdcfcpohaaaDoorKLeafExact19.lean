/- leaf: Read of any text, the reference's too; what was written is read as it was; plain. -/
import Derived.Test.YtencbdcfcpohaaaDoorKLeafExact18
import Derived.Test.YtencbdcfcpohaaaDoorKLeafExact09
import Derived.Test.YtencbdcfcpohaaaDoorKLeafExact06
namespace Go.Proofs.YtencbdcfcpohaaaDoor
set_option linter.unusedVariables false
set_option linter.unusedSimpArgs false
open Go.RowKit

theorem readC_eq (l : List UInt8) (hl : l.length = 256) (ho : sealL (l.take 252) = l) : readC l = readB l := (page_is l hl ho).symm
theorem lread_any (s : ByteArray) (w : World) (hs : s.size ≤ 1000000) (bs : List UInt8) (hbs : s.data.toList = bs) :
    Calls Tryd.prog 30 #[.string s] w fun e w' => Ext w w' ∧ (readB bs = false → e = .returned (.tuple #[.agg #[.int .i64 0, .slice none 0 0], .int .i64 3])) ∧
      (readB bs = true → ∃ B cap, e = .returned (.tuple #[.agg #[.int .i64 (lvAt bs : Nat), .slice B (cntAt bs) cap], .int .i64 0]) ∧ cntAt bs ≤ cap ∧ cap ≤ maxLen ∧ Row w' B 2 pairC (pairsAt bs (cntAt bs))) := by
  subst hbs
  have hlen : s.data.toList.length = s.size := by simp
  have shut : readB s.data.toList = false → ((∀ W : World, Calls Tryd.prog 47 #[.string s] W fun e w' => e = .returned (.tuple #[.string ⟨#[]⟩, .bool false]) ∧ Ext W w') ∨ (s.size ≠ 256 ∧ ∃ T, ∀ W : World, Calls Tryd.prog 47 #[.string s] W fun e w' => e = .returned (.tuple #[.string T, .bool true]) ∧ Ext W w')) →
      Calls Tryd.prog 30 #[.string s] w fun e w' => Ext w w' ∧ (readB s.data.toList = false → e = .returned (.tuple #[.agg #[.int .i64 0, .slice none 0 0], .int .i64 3])) ∧
      (readB s.data.toList = true → ∃ B cap, e = .returned (.tuple #[.agg #[.int .i64 (lvAt s.data.toList : Nat), .slice B (cntAt s.data.toList) cap], .int .i64 0]) ∧ cntAt s.data.toList ≤ cap ∧ cap ≤ maxLen ∧ Row w' B 2 pairC (pairsAt s.data.toList (cntAt s.data.toList))) := fun hb h => by
    refine (lread_shut s w h).mono ?_
    rintro e w' ⟨rfl, R⟩
    exact ⟨R, fun _ => rfl, fun h => by rw [hb] at h; cases h⟩
  by_cases h4 : s.size < 4
  · exact shut (page_shut _ (fun h => by omega)) (.inl fun W => open_short s W h4)
  · by_cases ho : sealL (s.data.toList.take (s.size - 4)) = s.data.toList
    · have hO := fun W => open_yes s W (by omega) (by omega) ho
      by_cases h256 : s.size = 256
      · rw [h256] at ho hO
        have := lread_open s _ w hO h256 s.data.toList (by omega) rfl
        rw [readC_eq _ (by omega) ho] at this
        exact this
      · exact shut (page_shut _ (fun h => by omega)) (.inr ⟨h256, _, hO⟩)
    · refine shut (page_shut _ (fun h => ?_)) (.inl fun W => open_no s W (by omega) (by omega) ho)
      rw [show s.size = 256 by omega] at ho
      exact ho h.2
theorem rlread_any (s : ByteArray) (w : World) (bs : List UInt8) (hbs : s.data.toList = bs) :
    Calls Tryd.prog 31 #[.string s] w fun e w' => Ext w w' ∧ (readB bs = false → e = .returned (.tuple #[.agg #[.int .i64 0, .slice none 0 0], .bool false])) ∧
      (readB bs = true → ∃ B cap, e = .returned (.tuple #[.agg #[.int .i64 (lvAt bs : Nat), .slice B (cntAt bs) cap], .bool true]) ∧ cntAt bs ≤ cap ∧ cap ≤ maxLen ∧ Row w' B 2 pairC (pairsAt bs (cntAt bs))) := by
  by_cases h : s.size = 256
  · exact rlread_256 s w h bs hbs
  · have hlen : s.data.toList.length = s.size := by simp
    rw [hbs] at hlen
    have hb : readB bs = false := page_shut _ (fun h => by omega)
    refine (rlread_short s w h).mono ?_
    rintro e w' ⟨rfl, R⟩
    exact ⟨R, fun _ => rfl, fun h => by rw [hb] at h; cases h⟩

theorem pairsL_inj : ∀ (xs ys : List (Nat × Nat)), xs.length = ys.length → (∀ x ∈ xs, x.1 < 18446744073709551616 ∧ x.2 < 18446744073709551616) → (∀ x ∈ ys, x.1 < 18446744073709551616 ∧ x.2 < 18446744073709551616) → pairsL xs = pairsL ys → xs = ys
  | [], [], _, _, _, _ => rfl
  | [], _ :: _, h, _, _, _ => by simp at h
  | _ :: _, [], h, _, _, _ => by simp at h
  | x :: xs, y :: ys, h, hx, hy, he => by
    unfold pairsL at he
    obtain ⟨h1, h2⟩ := List.append_inj he (by simp [le_length])
    obtain ⟨h3, h4⟩ := List.append_inj h2 (by simp [le_length])
    have e1 := congrArg numL h1
    have e2 := congrArg numL h3
    have bx := hx x (by simp)
    have bY := hy y (by simp)
    have p8 : (256 : Nat) ^ 8 = 18446744073709551616 := by decide
    rw [numL_le _ _ (by omega), numL_le _ _ (by omega)] at e1 e2
    rw [Prod.ext e1 e2, pairsL_inj xs ys (by simpa using h) (fun z hz => hx z (by simp [hz])) (fun z hz => hy z (by simp [hz])) h4]
/-- What was written is read as it was. -/
theorem page_back (lv : Nat) (xs : List (Nat × Nat)) (hg : goodB lv xs = true) (hx : ∀ x ∈ xs, x.1 < 18446744073709551616 ∧ x.2 < 18446744073709551616) (l : List UInt8) (hl : sealL (leafL lv xs) = l) :
    lvAt l = lv ∧ cntAt l = xs.length ∧ pairsAt l (cntAt l) = xs ∧ readB l = true := by
  have hgg := (goodB_iff lv xs).1 hg
  have h15 : xs.length ≤ 15 := hgg.1.2.2
  have h8 : lv < 8 := by omega
  have hlen : l.length = 256 := by rw [← hl]; exact sealed_length lv xs h15
  have hform : ∃ R, l = [76, UInt8.ofNat lv, UInt8.ofNat xs.length, 0] ++ (pairsL xs ++ R) := by
    rw [← hl]
    unfold sealL
    rw [leafL_eq]
    refine ⟨List.replicate (248 - 16 * xs.length) 0 ++ le (crcSum (hdL lv xs.length ++ pairsL xs ++ List.replicate (248 - 16 * xs.length) 0)) 4, ?_⟩
    have : hdL lv xs.length = [76, UInt8.ofNat lv, UInt8.ofNat xs.length, 0] := by simp [hdL, le]
    rw [this]
    simp
  obtain ⟨R, hR⟩ := hform
  have e1 : lvAt l = lv := by
    unfold lvAt
    rw [hR]
    simp
    omega
  have e2 : cntAt l = xs.length := by
    unfold cntAt
    rw [hR]
    simp
    omega
  have e3 : pairsAt l (cntAt l) = xs := by
    refine pairsL_inj _ _ (by rw [pairsAt_length, e2]) (pairsAt_lt l _) hx ?_
    rw [pairs_read l _ (by rw [e2, hlen]; omega), e2, hR]
    show ((pairsL xs ++ R).take (16 * xs.length)) = pairsL xs
    exact List.take_left' (by rw [pairsL_length])
  refine ⟨e1, e2, e3, ?_⟩
  unfold readB
  rw [e3, e1, decide_eq_true hlen, hg, decide_eq_true hl]
  rfl
theorem page_inj (lv lv' : Nat) (xs ys : List (Nat × Nat)) (hg : goodB lv xs = true) (hg' : goodB lv' ys = true) (hx : ∀ x ∈ xs, x.1 < 18446744073709551616 ∧ x.2 < 18446744073709551616) (hy : ∀ x ∈ ys, x.1 < 18446744073709551616 ∧ x.2 < 18446744073709551616) :
    sealL (leafL lv xs) = sealL (leafL lv' ys) ↔ lv = lv' ∧ xs = ys := by
  constructor
  · intro h
    obtain ⟨a1, a2, a3, _⟩ := page_back lv xs hg hx _ rfl
    obtain ⟨b1, b2, b3, _⟩ := page_back lv' ys hg' hy _ h.symm
    exact ⟨a1.symm.trans b1, a3.symm.trans b3⟩
  · rintro ⟨rfl, rfl⟩; rfl
theorem row_of_blk {E : Type} {enc : E → List Value} {c : Nat} (hc : ∀ x, (enc x).length = c) {w : World} {g : Nat} {t : TypeId} {xs : List E} (h : Blk w g t (xs.flatMap enc).toArray) : Row w (some ⟨g, 0, none⟩) c enc xs := fun i x hx =>
  ⟨g, 0, rfl, h.lt, fun j u hu => by
    rw [Nat.zero_add, h.cell]
    simpa using flat_get hc xs i x j u hx hu⟩
end Go.Proofs.YtencbdcfcpohaaaDoor

/- tiercelaw05: awake. -/
namespace Go.Proofs.YtencbdcfcpohaaaDoor
set_option linter.unusedVariables false
set_option linter.unusedSimpArgs false
open Go.RowKit

def twoP : List (Nat × Nat) := [(5, 1), (9, 2)]
theorem two_good : goodB ((0 : Nat) : Int) twoP = true := by decide
theorem two_lt : ∀ x ∈ twoP, x.1 < 18446744073709551616 ∧ x.2 < 18446744073709551616 := by decide
theorem two_above (n k : Nat) (h : ∀ i, i < twoP.length → n ≤ i → k ≤ keyAt twoP i) : ∀ i, n ≤ i → i < twoP.length → k ≤ keyAt twoP i := fun i h1 h2 => h i h2 h1
theorem two_place9 : Place twoP 9 1 := ⟨by decide, by decide, two_above 1 9 (by decide)⟩
theorem two_place8 : Place twoP 8 1 := ⟨by decide, by decide, two_above 1 8 (by decide)⟩
theorem two_place4 : Place twoP 4 0 := ⟨by decide, by decide, two_above 0 4 (by decide)⟩

set_option maxRecDepth 100000 in
set_option maxHeartbeats 4000000 in
theorem awake5 (w : World) : Calls Tryd.prog 25 #[] w fun e w' => e = .returned (.bool true) ∧ Ext w w' := by
  obtain ⟨q, hq⟩ : ∃ q : ByteArray, (⟨(sealL (leafL 0 twoP)).toArray⟩ : ByteArray) = q := ⟨_, rfl⟩
  have hqs : q.size = 256 := by rw [← hq, mk_size]; exact sealed_length 0 twoP (by decide)
  have hql : q.data.toList = sealL (leafL 0 twoP) := by rw [← hq]
  have h5 : ((q.extract 0 5).toList == [76, 0, 2, 0, 5]) = true := by
    rw [beq_iff_eq, ByteArray.toList_eq, cut_data q 5 (by omega), hql]
    unfold sealL
    rw [leafL_eq, hdL_eq]
    rfl
  have HB := Lib.hid (fun (W : World) (A : Option Addr) (h : Row W A 2 pairC twoP) => lbytes_yes 0 A 2 2 twoP W rfl h two_lt two_good)
  rw [hq] at HB
  obtain ⟨b1, b2, b3, b4⟩ := page_back 0 twoP two_good two_lt _ rfl
  have HR := Lib.hid (fun W => lread_any q W (by omega) _ hql)
  rw [b1, b3, b2] at HR
  have b2' : twoP.length = 2 := rfl
  rw [b2'] at HR
  have O0 := (Own.start w).new 72 #[.int .u64 5, .int .u64 1, .int .u64 9, .int .u64 2]
  have O1 : Own w.heap.size w [(w.heap.size + 1, 60, #[.int .i64 0, .slice (some ⟨w.heap.size, 0, none⟩) 2 2]), (w.heap.size, 72, #[.int .u64 5, .int .u64 1, .int .u64 9, .int .u64 2])] ((w.alloc (.cells #[.int .u64 5, .int .u64 1, .int .u64 9, .int .u64 2] 72)).alloc (.cells #[.int .i64 0, .slice (some ⟨w.heap.size, 0, none⟩) 2 2] 60)) := by
    have := O0.new 60 #[.int .i64 0, .slice (some ⟨w.heap.size, 0, none⟩) 2 2]
    simpa using this
  have q0 := O1.all.1.cell 0
  have q1 := O1.all.1.cell 1
  clear O0 hq hql b1 b2 b3 b2'
  have hrow : ∀ (W : World) (h : Ext ((w.alloc (.cells #[.int .u64 5, .int .u64 1, .int .u64 9, .int .u64 2] 72)).alloc (.cells #[.int .i64 0, .slice (some ⟨w.heap.size, 0, none⟩) 2 2] 60)) W), Row W (some ⟨w.heap.size, 0, none⟩) 2 pairC twoP := fun W h => row_of_blk (E := Nat × Nat) (enc := pairC) (xs := twoP) (fun _ => rfl) (O1.ext h).all.2.1
  have HW := Lib.hid hrow
  clear hrow
  go_enter Tryd.func25, Tryd.ntmps25
  go_wp2_with fail
  refine (HB.out _ _ (HW.out _ (Ext.refl _))).mono ?_
  rintro e w1 ⟨rfl, R1⟩
  have O2 := O1.ext R1
  clear O1 q0 q1
  go_wp2_with fail
  refine (HR.out _).mono ?_
  rintro e w2 ⟨R2, -, hyes⟩
  obtain ⟨B, cap, rfl, hc1, hc2, hrow2⟩ := hyes b4
  have R12 := R1.trans R2
  have O3 := (O2.ext R2).new 60 #[.int .i64 0, .slice B 2 cap]
  have hrow3 := hrow2.ext (Ext.alloc w2 (.cells #[.int .i64 0, .slice B 2 cap] 60))
  have R3 := R12.trans (Ext.alloc w2 (.cells #[.int .i64 0, .slice B 2 cap] 60))
  have HO3 := Lib.hid O3
  have HR3 := Lib.hid R3
  have HROW := Lib.hid hrow3
  have q0 := O3.all.2.1.cell 0
  have q1 := O3.all.2.1.cell 1
  clear O2 O3 R1 R2 R12 R3 hrow2 hrow3 HB HR b4 hc1 hc2 hyes
  go_wp2_with fail
  have C9 := find_any 0 (some ⟨w.heap.size, 0, none⟩) 2 2 twoP _ rfl (by decide) (HW.out _ HR3.out) 9 1 two_place9
  rw [show decide (1 < 2 ∧ keyAt twoP 1 = 9) = true by decide] at C9
  refine C9.mono ?_
  rintro e w3 ⟨rfl, R4⟩
  have HO4 := Lib.hid (HO3.out.ext R4)
  have HR4 := Lib.hid (HR3.out.trans R4)
  have HROW4 := Lib.hid (HROW.out.ext R4)
  clear C9 HO3 HR3 HROW R4 q0 q1
  generalize w2.heap.size = X4 at HO4
  have q0 := HO4.out.all.2.1.cell 0
  have q1 := HO4.out.all.2.1.cell 1
  have p0 := HO4.out.all.1.cell 0
  have p1 := HO4.out.all.1.cell 1
  go_wp2_with fail
  have CS := same_any 0 0 (some ⟨w.heap.size, 0, none⟩) B 2 2 2 cap twoP twoP w3 rfl rfl (by decide) (by decide) (HW.out _ HR4.out) HROW4.out
  rw [show decide ((0 : Int) = 0 ∧ twoP = twoP) = true by decide] at CS
  refine CS.mono ?_
  rintro e w4 ⟨rfl, R5⟩
  have HO5 := Lib.hid (HO4.out.ext R5)
  have HR5 := Lib.hid (HR4.out.trans R5)
  clear CS HO4 HR4 HROW4 R5 q0 q1 p0 p1
  have q0 := HO5.out.all.2.1.cell 0
  have q1 := HO5.out.all.2.1.cell 1
  go_wp2_with fail
  have C8 := child_any 0 (some ⟨w.heap.size, 0, none⟩) 2 2 twoP _ rfl (by decide) (HW.out _ HR5.out) 8 1 two_place8
  rw [show (if 1 < 2 ∧ keyAt twoP 1 = 8 then ((1 : Nat) : Int) else ((1 : Nat) : Int) - 1) = 0 by decide] at C8
  refine C8.mono ?_
  rintro e w5 ⟨rfl, R6⟩
  have HO6 := Lib.hid (HO5.out.ext R6)
  have HR6 := Lib.hid (HR5.out.trans R6)
  clear C8 HO5 HR5 R6 q0 q1
  have q0 := HO6.out.all.2.1.cell 0
  have q1 := HO6.out.all.2.1.cell 1
  go_wp2_with fail
  have C4 := child_any 0 (some ⟨w.heap.size, 0, none⟩) 2 2 twoP _ rfl (by decide) (HW.out _ HR6.out) 4 0 two_place4
  rw [show (if 0 < 2 ∧ keyAt twoP 0 = 4 then ((0 : Nat) : Int) else ((0 : Nat) : Int) - 1) = -1 by decide] at C4
  refine C4.mono ?_
  rintro e w6 ⟨rfl, R7⟩
  have HO7 := Lib.hid (HO6.out.ext R7)
  clear C4 HO6 HR6 R7 q0 q1 HW
  go_wp2_with fail
  go_ret
  exact ⟨rfl, HO7.out.below⟩
end Go.Proofs.YtencbdcfcpohaaaDoor

/- A node as an argument. -/
namespace Go.Proofs.YtencbdcfcpohaaaDoor
set_option linter.unusedVariables false
set_option linter.unusedSimpArgs false
open Go.RowKit

theorem cells_pair : Tryd.prog.cellsOf 72 = 2 := by kernel_rfl
theorem cells_leaf : Tryd.prog.cellsOf 60 = 2 := by kernel_rfl
theorem cells_li : Tryd.prog.cellsOf 3 = 1 := by kernel_rfl
theorem cells_lu : Tryd.prog.cellsOf 31 = 1 := by kernel_rfl
theorem cells_ls : Tryd.prog.cellsOf 58 = 1 := by kernel_rfl
theorem fit_pair {w : World} {cs : List Value} (hf : Fit Tryd.prog w 72 cs) : ∃ x : Nat × Nat, cs = pairC x ∧ (x.1 < 18446744073709551616 ∧ x.2 < 18446744073709551616) := by
  obtain ⟨hl, hx⟩ := fit_fields 2 Tryd.underlying72 cells_pair hf
  obtain ⟨a, e0, w0⟩ := cell_int Tryd.underlying31 (hx 0 0 31 1 rfl cells_lu)
  obtain ⟨b, e1, w1⟩ := cell_int Tryd.underlying31 (hx 1 1 31 1 rfl cells_lu)
  have ha := bounds_u64 w0
  have hb := bounds_u64 w1
  obtain ⟨m, rfl⟩ : ∃ m : Nat, a = m := ⟨a.toNat, by omega⟩
  obtain ⟨n, rfl⟩ : ∃ m : Nat, b = m := ⟨b.toNat, by omega⟩
  exact ⟨(m, n), list2_of hl e0 e1, by show m < _; omega, by show n < _; omega⟩
theorem arg_leaf {w : World} {v : Value} (h : Arg Tryd.prog w 60 v) :
    ∃ (lv : Int) (A : Option Addr) (len cap : Nat) (xs : List (Nat × Nat)), v = .agg #[.int .i64 lv, .slice A len cap] ∧ len ≤ cap ∧ cap ≤ maxLen ∧ xs.length = len ∧ (∀ x ∈ xs, x.1 < 18446744073709551616 ∧ x.2 < 18446744073709551616) ∧ Row w A 2 pairC xs := by
  obtain ⟨cs, rfl, hf⟩ := arg_struct Tryd.underlying60 h
  obtain ⟨hl, hx⟩ := fit_fields 2 Tryd.underlying60 cells_leaf hf
  obtain ⟨lv, e0, _⟩ := cell_int Tryd.underlying3 (hx 0 0 3 1 rfl cells_li)
  have h1 := hx 1 1 58 1 rfl cells_ls
  obtain ⟨v, hv⟩ : ∃ v, (cs.drop 1).take 1 = [v] := by
    match cs, hl with
    | [x0, x1], _ => exact ⟨x1, rfl⟩
  rw [hv] at h1
  obtain ⟨A, len, cap, xs, rfl, g1, g2, g3, g4, g5⟩ := fit_row pairC (fun x => x.1 < 18446744073709551616 ∧ x.2 < 18446744073709551616) Tryd.underlying58 cells_pair (by decide) (fun _ _ hf => fit_pair hf) h1
  have e1 := take1_drop hv
  rw [list2_of hl e0 e1]
  exact ⟨lv, A, len, cap, xs, rfl, g1, g2, g3, g4, g5⟩
end Go.Proofs.YtencbdcfcpohaaaDoor

/- LeafExact: of every node whether it can be, and its bytes, and of all bytes the node, are the document's. -/
namespace Go.Proofs.YtencbdcfcpohaaaDoor
set_option linter.unusedVariables false
set_option linter.unusedSimpArgs false
open Go.RowKit

set_option maxRecDepth 100000 in
set_option maxHeartbeats 8000000 in
theorem leafExact_core (lv : Int) (A : Option Addr) (len cap : Nat) (xs : List (Nat × Nat)) (s : ByteArray) (w : World) (hlen : xs.length = len) (hm : len ≤ maxLen) (hrow : Row w A 2 pairC xs) (hx : ∀ x ∈ xs, x.1 < 18446744073709551616 ∧ x.2 < 18446744073709551616) (hs : s.size ≤ maxLen) :
    Calls Tryd.prog 7 #[.agg #[.int .i64 lv, .slice A len cap], .string s] w fun e w' => e = .returned (.bool true) ∧ Ext w w' := by
  unfold maxLen at hm hs
  have hE := Ext.alloc w (.cells #[.int .i64 lv, .slice A len cap] 60)
  have hX : Blk (w.alloc (.cells #[.int .i64 lv, .slice A len cap] 60)) w.heap.size 60 #[.int .i64 lv, .slice A len cap] := Blk.new _ _ _
  go_enter Tryd.func7, Tryd.ntmps7
  go_wp2_with fail
  refine (awake5 _).mono ?_
  rintro e w1 ⟨rfl, R1⟩
  have hX1 := hX.ext R1
  have HX := Lib.hid (fun (W : World) (h : Ext w1 W) => hX1.ext h)
  have HR0 := Lib.hid (hE.trans R1)
  have hrow1 := (hrow.ext hE).ext R1
  have HROW := Lib.hid (fun (W : World) (h : Ext w1 W) => hrow1.ext h)
  have q0 := hX1.cell 0
  have q1 := hX1.cell 1
  clear hX hE hrow R1 hX1 hrow1
  by_cases h40 : 40 < len
  · have d40 : decide ((40 : Int) < (len : Int)) = true := by rw [decide_eq_true_iff]; omega
    have hEx := Ext.refl w1
    go_wp2_with fail
    go_ret
    exact ⟨rfl, HR0.out.trans hEx⟩
  · have d40 : decide ((40 : Int) < (len : Int)) = false := by rw [decide_eq_false_iff_not]; omega
    by_cases h300 : 300 < s.size
    · have d300 : decide ((300 : Int) < (s.size : Int)) = true := by rw [decide_eq_true_iff]; omega
      have hEx := Ext.refl w1
      go_wp2_with fail
      go_ret
      exact ⟨rfl, HR0.out.trans hEx⟩
    · have d300 : decide ((300 : Int) < (s.size : Int)) = false := by rw [decide_eq_false_iff_not]; omega
      obtain ⟨bs, hbs⟩ : ∃ bs, s.data.toList = bs := ⟨_, rfl⟩
      have CA := fun W => lread_any s W (by omega) bs hbs
      have CB := fun W => rlread_any s W bs hbs
      obtain ⟨RB, hRB⟩ : ∃ r, readB bs = r := ⟨_, rfl⟩
      rw [hRB] at CA CB
      have HRA := Lib.hid CA
      have HRB := Lib.hid CB
      clear CA CB hbs hRB
      have CG := Lib.hid (fun (W : World) (h : Ext w1 W) => good_any lv A len cap xs W hlen (by omega) (HROW.out W h) (fun x hh => (hx x hh).1))
      have CR := Lib.hid (fun (W : World) (h : Ext w1 W) => rgood_any lv A len cap xs W hlen (by omega) (HROW.out W h) (fun x hh => (hx x hh).1))
      obtain ⟨G, hG⟩ : ∃ g, goodB lv xs = g := ⟨_, rfl⟩
      rw [hG] at CG CR
      cases G
      · have CL := Lib.hid (fun (W : World) (h : Ext w1 W) => lbytes_no lv A len cap xs W hlen (by omega) (HROW.out W h) (fun x hh => (hx x hh).1) hG)
        clear hG
        go_wp2_with fail
        refine (CL.out _ (Ext.refl _)).mono ?_
        rintro e w2 ⟨rfl, R2⟩
        clear CL q0 q1
        go_upto_region 6 with fail
        refine wp_typed (R := Ext) (w0 := w2) [[], [0], [], [0, 1, 2], [0, 1, 2, 3]] [27, 28, 29, 30, 31] Ext.refl (fun _ _ _ => Ext.trans) (Ext.drew _) (by kernel_rfl) ?_
        apply Build.det 27 Ext.refl (by rfl) (by rfl) rfl
        case h =>   -- 0: t27 := Op.load 60 (tmp 2)
          intro ax wx hE hR hF
          have e2 : ax.eval (.tmp 2) = .pointer (some ⟨w.heap.size, 0, none⟩) := hE.eval 2 (by rfl) rfl
          have hX2 := HX.out _ (R2.trans hR); have q0 := hX2.cell 0; have q1 := hX2.cell 1
          simp [go_sem, BigFrame.eval_const, BigFrame.eval_global, BigFrame.eval_func, ↓IntWalk.iteOmega, ev e2, q0, q1]
          with_reducible rfl
        apply Build.call 28 Ext.refl (by rfl) (by rfl) rfl
        case h =>
          intro ax wx hE hR hF
          have e27 : ax.eval (.tmp 27) = _ := hF 0 (det 27 _) (by decide) (.head _)
          simp [go_sem, BigFrame.eval_const, BigFrame.eval_global, BigFrame.eval_func, ↓IntWalk.iteOmega, ev e27]
          with_reducible exact ⟨rfl, rfl⟩
        case hc => intro wx hR; with_reducible exact CG.out wx (R2.trans hR)
        apply Build.det 29 Ext.refl (by rfl) (by rfl) rfl
        case h =>   -- 2: t29 := Op.load 60 (tmp 2)
          intro ax wx hE hR hF
          have e2 : ax.eval (.tmp 2) = .pointer (some ⟨w.heap.size, 0, none⟩) := hE.eval 2 (by rfl) rfl
          have hX2 := HX.out _ (R2.trans hR); have q0 := hX2.cell 0; have q1 := hX2.cell 1
          simp [go_sem, BigFrame.eval_const, BigFrame.eval_global, BigFrame.eval_func, ↓IntWalk.iteOmega, ev e2, q0, q1]
          with_reducible rfl
        apply Build.call 30 Ext.refl (by rfl) (by rfl) rfl
        case h =>
          intro ax wx hE hR hF
          have e29 : ax.eval (.tmp 29) = _ := hF 2 (det 29 _) (by decide) (.head _)
          simp [go_sem, BigFrame.eval_const, BigFrame.eval_global, BigFrame.eval_func, ↓IntWalk.iteOmega, ev e29]
          with_reducible exact ⟨rfl, rfl⟩
        case hc => intro wx hR; with_reducible exact CR.out wx (R2.trans hR)
        apply Build.det 31 Ext.refl (by rfl) (by rfl) rfl
        case h =>   -- 4: t31 := Op.binOp BinOp.neq 4 (tmp 28) (tmp 30) 4
          intro ax wx hE hR hF
          have e28 : ax.eval (.tmp 28) = _ := hF 1 (det 28 _) (by decide) (.tail _ (.tail _ (.head _)))
          have e30 : ax.eval (.tmp 30) = _ := hF 3 (det 30 _) (by decide) (.head _)
          simp [go_sem, BigFrame.eval_const, BigFrame.eval_global, BigFrame.eval_func, ↓IntWalk.iteOmega, ev e28, ev e30]
          with_reducible rfl
        apply Build.stop
        refine ⟨by kernel_rfl, .inl ⟨rfl, ?_⟩⟩
        intro ax w3 hE R3 hF
        have e27 : ax.eval (.tmp 27) = _ := hF 0 (det 27 _) (.tail _ (.tail _ (.tail _ (.tail _ (.head _)))))
        have e28 : ax.eval (.tmp 28) = _ := hF 1 (det 28 _) (.tail _ (.tail _ (.tail _ (.head _))))
        have e29 : ax.eval (.tmp 29) = _ := hF 2 (det 29 _) (.tail _ (.tail _ (.head _)))
        have e30 : ax.eval (.tmp 30) = _ := hF 3 (det 30 _) (.tail _ (.head _))
        have e31 : ax.eval (.tmp 31) = _ := hF 4 (det 31 _) (.head _)
        rw [AllEq.frame (D := [27, 28, 29, 30, 31]) (AllEq.cons e27 (AllEq.cons e28 (AllEq.cons e29 (AllEq.cons e30 (AllEq.cons e31 (AllEq.nil)))))) hE rfl]
        clear hF hE e27 e28 e29 e30 e31
        simp only [List.foldl_cons, List.foldl_nil, Act.put, List.setIfInBounds_toArray, List.set_cons_succ, List.set_cons_zero]
        have R3 := R2.trans R3
        clear R2
        have q0 := (HX.out _ R3).cell 0
        have q1 := (HX.out _ R3).cell 1
        go_wp2_with fail
        refine (CR.out _ R3).mono ?_
        rintro e w4 ⟨rfl, R4⟩
        have hEx := R3.trans R4
        clear q0 q1 R3 R4 CG CR
        go_wp2_with fail
        refine (HRA.out _).mono ?_
        rintro e w8 ⟨R8, hno, hyes⟩
        have hEx8 := hEx.trans R8
        cases RB
        · have he := hno (by simp)
          subst he
          clear hno hyes R8
          have H8 := Lib.hid hEx8
          clear hEx8 hEx
          have X8 := Blk.new w8 60 #[.int .i64 0, .slice none 0 0]
          have E8 := Ext.alloc w8 (.cells #[.int .i64 0, .slice none 0 0] 60)
          have HX8 := Lib.hid X8
          have HE8 := Lib.hid E8
          clear X8 E8
          go_wp2_with fail
          refine (HRB.out _).mono ?_
          rintro e w9 ⟨R9, hno, hyes⟩
          have he := hno (by simp)
          subst he
          clear hno hyes
          have X9 := HX8.out.ext R9
          have Y9 := Blk.new w9 60 #[.int .i64 0, .slice none 0 0]
          have X10 := X9.ext (Ext.alloc w9 (.cells #[.int .i64 0, .slice none 0 0] 60))
          have H10 := Lib.hid (H8.out.trans (HE8.out.trans (R9.trans (Ext.alloc w9 (.cells #[.int .i64 0, .slice none 0 0] 60)))))
          have q0 := X10.cell 0
          have q1 := X10.cell 1
          have p0 := Y9.cell 0
          have p1 := Y9.cell 1
          clear X9 Y9 X10 HX8 HE8 H8 R9
          go_wp2_with fail
          refine (same_any 0 0 none none 0 0 0 0 [] [] _ rfl rfl (by decide) (by decide) (fun i x h => by simp at h) (fun i x h => by simp at h)).mono ?_
          rintro e w11 ⟨rfl, R11⟩
          have hEx := H10.out.trans R11
          clear q0 q1 p0 p1 R11 H10
          go_wp2_with fail
          go_ret
          exact ⟨rfl, HR0.out.trans hEx⟩
        · obtain ⟨B, cap8, he, -, -, hrow8⟩ := hyes (by simp)
          subst he
          clear hno hyes R8
          have H8 := Lib.hid hEx8
          clear hEx8 hEx
          have X8 := Blk.new w8 60 #[.int .i64 (lvAt bs : Nat), .slice B (cntAt bs) cap8]
          have E8 := Ext.alloc w8 (.cells #[.int .i64 (lvAt bs : Nat), .slice B (cntAt bs) cap8] 60)
          have HX8 := Lib.hid X8
          have HE8 := Lib.hid E8
          have HW8 := Lib.hid hrow8
          clear X8 E8 hrow8
          go_wp2_with fail
          refine (HRB.out _).mono ?_
          rintro e w9 ⟨R9, hno, hyes⟩
          obtain ⟨B', cap9, he, -, -, hrow9⟩ := hyes (by simp)
          subst he
          clear hno hyes
          have X9 := HX8.out.ext R9
          have Y9 := Blk.new w9 60 #[.int .i64 (lvAt bs : Nat), .slice B' (cntAt bs) cap9]
          have E9 := Ext.alloc w9 (.cells #[.int .i64 (lvAt bs : Nat), .slice B' (cntAt bs) cap9] 60)
          have X10 := X9.ext E9
          have H10 := Lib.hid (H8.out.trans (HE8.out.trans (R9.trans E9)))
          have HRX := Lib.hid (HW8.out.ext (HE8.out.trans (R9.trans E9)))
          have HRY := Lib.hid (hrow9.ext E9)
          have q0 := X10.cell 0
          have q1 := X10.cell 1
          have p0 := Y9.cell 0
          have p1 := Y9.cell 1
          clear X9 Y9 X10 HX8 HE8 H8 R9 E9 HW8 hrow9
          go_wp2_with fail
          have hcl : cntAt bs ≤ 1000000 := by have := cntAt_le bs; omega
          have CS := same_any (lvAt bs : Nat) (lvAt bs : Nat) B B' (cntAt bs) cap8 (cntAt bs) cap9 (pairsAt bs (cntAt bs)) (pairsAt bs (cntAt bs)) _ (pairsAt_length _ _) (pairsAt_length _ _) hcl hcl HRX.out HRY.out
          rw [decide_eq_true ⟨rfl, rfl⟩] at CS
          refine CS.mono ?_
          rintro e w11 ⟨rfl, R11⟩
          have hEx := H10.out.trans R11
          clear q0 q1 p0 p1 R11 H10 CS HRX HRY hcl
          go_wp2_with fail
          go_ret
          exact ⟨rfl, HR0.out.trans hEx⟩
      · have hgg := (goodB_iff lv xs).1 hG
        obtain ⟨lvn, rfl⟩ : ∃ n : Nat, lv = n := ⟨lv.toNat, by omega⟩
        obtain ⟨q, hq⟩ : ∃ q : ByteArray, (⟨(sealL (leafL lvn xs)).toArray⟩ : ByteArray) = q := ⟨_, rfl⟩
        have C1 := fun (W : World) (h : Ext w1 W) => lbytes_yes lvn A len cap xs W hlen (HROW.out W h) hx hG
        have C2 := fun (W : World) (h : Ext w1 W) => rlbytes_any lvn A len cap xs W hlen (by omega) (by omega) (HROW.out W h) hx
        rw [hq] at C1 C2
        have CL := Lib.hid C1
        have CB := Lib.hid C2
        have hqq : (q.toList == q.toList) = true := by simp
        clear hG hgg C1 C2 hq
        go_wp2_with fail
        refine (CL.out _ (Ext.refl _)).mono ?_
        rintro e w2 ⟨rfl, R2⟩
        clear CL q0 q1
        go_upto_region 6 with fail
        refine wp_typed (R := Ext) (w0 := w2) [[], [0], [], [0, 1, 2], [0, 1, 2, 3]] [27, 28, 29, 30, 31] Ext.refl (fun _ _ _ => Ext.trans) (Ext.drew _) (by kernel_rfl) ?_
        apply Build.det 27 Ext.refl (by rfl) (by rfl) rfl
        case h =>   -- 0: t27 := Op.load 60 (tmp 2)
          intro ax wx hE hR hF
          have e2 : ax.eval (.tmp 2) = .pointer (some ⟨w.heap.size, 0, none⟩) := hE.eval 2 (by rfl) rfl
          have hX2 := HX.out _ (R2.trans hR); have q0 := hX2.cell 0; have q1 := hX2.cell 1
          simp [go_sem, BigFrame.eval_const, BigFrame.eval_global, BigFrame.eval_func, ↓IntWalk.iteOmega, ev e2, q0, q1]
          with_reducible rfl
        apply Build.call 28 Ext.refl (by rfl) (by rfl) rfl
        case h =>
          intro ax wx hE hR hF
          have e27 : ax.eval (.tmp 27) = _ := hF 0 (det 27 _) (by decide) (.head _)
          simp [go_sem, BigFrame.eval_const, BigFrame.eval_global, BigFrame.eval_func, ↓IntWalk.iteOmega, ev e27]
          with_reducible exact ⟨rfl, rfl⟩
        case hc => intro wx hR; with_reducible exact CG.out wx (R2.trans hR)
        apply Build.det 29 Ext.refl (by rfl) (by rfl) rfl
        case h =>   -- 2: t29 := Op.load 60 (tmp 2)
          intro ax wx hE hR hF
          have e2 : ax.eval (.tmp 2) = .pointer (some ⟨w.heap.size, 0, none⟩) := hE.eval 2 (by rfl) rfl
          have hX2 := HX.out _ (R2.trans hR); have q0 := hX2.cell 0; have q1 := hX2.cell 1
          simp [go_sem, BigFrame.eval_const, BigFrame.eval_global, BigFrame.eval_func, ↓IntWalk.iteOmega, ev e2, q0, q1]
          with_reducible rfl
        apply Build.call 30 Ext.refl (by rfl) (by rfl) rfl
        case h =>
          intro ax wx hE hR hF
          have e29 : ax.eval (.tmp 29) = _ := hF 2 (det 29 _) (by decide) (.head _)
          simp [go_sem, BigFrame.eval_const, BigFrame.eval_global, BigFrame.eval_func, ↓IntWalk.iteOmega, ev e29]
          with_reducible exact ⟨rfl, rfl⟩
        case hc => intro wx hR; with_reducible exact CR.out wx (R2.trans hR)
        apply Build.det 31 Ext.refl (by rfl) (by rfl) rfl
        case h =>   -- 4: t31 := Op.binOp BinOp.neq 4 (tmp 28) (tmp 30) 4
          intro ax wx hE hR hF
          have e28 : ax.eval (.tmp 28) = _ := hF 1 (det 28 _) (by decide) (.tail _ (.tail _ (.head _)))
          have e30 : ax.eval (.tmp 30) = _ := hF 3 (det 30 _) (by decide) (.head _)
          simp [go_sem, BigFrame.eval_const, BigFrame.eval_global, BigFrame.eval_func, ↓IntWalk.iteOmega, ev e28, ev e30]
          with_reducible rfl
        apply Build.stop
        refine ⟨by kernel_rfl, .inl ⟨rfl, ?_⟩⟩
        intro ax w3 hE R3 hF
        have e27 : ax.eval (.tmp 27) = _ := hF 0 (det 27 _) (.tail _ (.tail _ (.tail _ (.tail _ (.head _)))))
        have e28 : ax.eval (.tmp 28) = _ := hF 1 (det 28 _) (.tail _ (.tail _ (.tail _ (.head _))))
        have e29 : ax.eval (.tmp 29) = _ := hF 2 (det 29 _) (.tail _ (.tail _ (.head _)))
        have e30 : ax.eval (.tmp 30) = _ := hF 3 (det 30 _) (.tail _ (.head _))
        have e31 : ax.eval (.tmp 31) = _ := hF 4 (det 31 _) (.head _)
        rw [AllEq.frame (D := [27, 28, 29, 30, 31]) (AllEq.cons e27 (AllEq.cons e28 (AllEq.cons e29 (AllEq.cons e30 (AllEq.cons e31 (AllEq.nil)))))) hE rfl]
        clear hF hE e27 e28 e29 e30 e31
        simp only [List.foldl_cons, List.foldl_nil, Act.put, List.setIfInBounds_toArray, List.set_cons_succ, List.set_cons_zero]
        have R3 := R2.trans R3
        clear R2
        have q0 := (HX.out _ R3).cell 0
        have q1 := (HX.out _ R3).cell 1
        go_wp2_with fail
        refine (CR.out _ R3).mono ?_
        rintro e w4 ⟨rfl, R4⟩
        have R5 := R3.trans R4
        clear q0 q1
        have q0 := (HX.out _ R5).cell 0
        have q1 := (HX.out _ R5).cell 1
        go_wp2_with fail
        refine (CB.out _ R5).mono ?_
        rintro e w5 ⟨rfl, R6⟩
        have hEx := R5.trans R6
        clear q0 q1 R3 R4 R5 R6 CG CR CB
        go_wp2_with fail
        refine (HRA.out _).mono ?_
        rintro e w8 ⟨R8, hno, hyes⟩
        have hEx8 := hEx.trans R8
        cases RB
        · have he := hno (by simp)
          subst he
          clear hno hyes R8
          have H8 := Lib.hid hEx8
          clear hEx8 hEx
          have X8 := Blk.new w8 60 #[.int .i64 0, .slice none 0 0]
          have E8 := Ext.alloc w8 (.cells #[.int .i64 0, .slice none 0 0] 60)
          have HX8 := Lib.hid X8
          have HE8 := Lib.hid E8
          clear X8 E8
          go_wp2_with fail
          refine (HRB.out _).mono ?_
          rintro e w9 ⟨R9, hno, hyes⟩
          have he := hno (by simp)
          subst he
          clear hno hyes
          have X9 := HX8.out.ext R9
          have Y9 := Blk.new w9 60 #[.int .i64 0, .slice none 0 0]
          have X10 := X9.ext (Ext.alloc w9 (.cells #[.int .i64 0, .slice none 0 0] 60))
          have H10 := Lib.hid (H8.out.trans (HE8.out.trans (R9.trans (Ext.alloc w9 (.cells #[.int .i64 0, .slice none 0 0] 60)))))
          have q0 := X10.cell 0
          have q1 := X10.cell 1
          have p0 := Y9.cell 0
          have p1 := Y9.cell 1
          clear X9 Y9 X10 HX8 HE8 H8 R9
          go_wp2_with fail
          refine (same_any 0 0 none none 0 0 0 0 [] [] _ rfl rfl (by decide) (by decide) (fun i x h => by simp at h) (fun i x h => by simp at h)).mono ?_
          rintro e w11 ⟨rfl, R11⟩
          have hEx := H10.out.trans R11
          clear q0 q1 p0 p1 R11 H10
          go_wp2_with fail
          go_ret
          exact ⟨rfl, HR0.out.trans hEx⟩
        · obtain ⟨B, cap8, he, -, -, hrow8⟩ := hyes (by simp)
          subst he
          clear hno hyes R8
          have H8 := Lib.hid hEx8
          clear hEx8 hEx
          have X8 := Blk.new w8 60 #[.int .i64 (lvAt bs : Nat), .slice B (cntAt bs) cap8]
          have E8 := Ext.alloc w8 (.cells #[.int .i64 (lvAt bs : Nat), .slice B (cntAt bs) cap8] 60)
          have HX8 := Lib.hid X8
          have HE8 := Lib.hid E8
          have HW8 := Lib.hid hrow8
          clear X8 E8 hrow8
          go_wp2_with fail
          refine (HRB.out _).mono ?_
          rintro e w9 ⟨R9, hno, hyes⟩
          obtain ⟨B', cap9, he, -, -, hrow9⟩ := hyes (by simp)
          subst he
          clear hno hyes
          have X9 := HX8.out.ext R9
          have Y9 := Blk.new w9 60 #[.int .i64 (lvAt bs : Nat), .slice B' (cntAt bs) cap9]
          have E9 := Ext.alloc w9 (.cells #[.int .i64 (lvAt bs : Nat), .slice B' (cntAt bs) cap9] 60)
          have X10 := X9.ext E9
          have H10 := Lib.hid (H8.out.trans (HE8.out.trans (R9.trans E9)))
          have HRX := Lib.hid (HW8.out.ext (HE8.out.trans (R9.trans E9)))
          have HRY := Lib.hid (hrow9.ext E9)
          have q0 := X10.cell 0
          have q1 := X10.cell 1
          have p0 := Y9.cell 0
          have p1 := Y9.cell 1
          clear X9 Y9 X10 HX8 HE8 H8 R9 E9 HW8 hrow9
          go_wp2_with fail
          have hcl : cntAt bs ≤ 1000000 := by have := cntAt_le bs; omega
          have CS := same_any (lvAt bs : Nat) (lvAt bs : Nat) B B' (cntAt bs) cap8 (cntAt bs) cap9 (pairsAt bs (cntAt bs)) (pairsAt bs (cntAt bs)) _ (pairsAt_length _ _) (pairsAt_length _ _) hcl hcl HRX.out HRY.out
          rw [decide_eq_true ⟨rfl, rfl⟩] at CS
          refine CS.mono ?_
          rintro e w11 ⟨rfl, R11⟩
          have hEx := H10.out.trans R11
          clear q0 q1 p0 p1 R11 H10 CS HRX HRY hcl
          go_wp2_with fail
          go_ret
          exact ⟨rfl, HR0.out.trans hEx⟩
theorem leafExact_walk (w : World) (v0 v1 : Value) (h0 : Arg Tryd.prog w 60 v0) (h1 : Arg Tryd.prog w 9 v1) :
    Calls Tryd.prog 7 #[v0, v1] w fun e w' => e = .returned (.bool true) ∧ Below w.heap.size w w' := by
  obtain ⟨lv, A, len, cap, xs, rfl, hc, hm, h3, h5, h4⟩ := arg_leaf h0
  obtain ⟨s, rfl, hs⟩ := arg_string Tryd.underlying9 h1
  exact leafExact_core lv A len cap xs s w h3 (by omega) h4 h5 hs
end Go.Proofs.YtencbdcfcpohaaaDoor
