/- A reader of one's own. -/
import Derived.Test.YtakkhglbdljfiaaGreatDoorKStoreShadows17
import Derived.Test.YtakkhglbdljfiaaGreatDoorKStoreShadows18
import Derived.RegionTactic
import Derived.Test.YtakkhglbdljfiaaGreatDoorKStoreShadows02
namespace Go.Proofs.YtakkhglbdljfiaaGreatDoor
set_option linter.unusedVariables false
set_option linter.unusedSimpArgs false
open Go.RowKit

/-- The reader's states: what is left, and whether there were too few bytes. -/
structure Rs (A : World) (b : Nat) (st : List UInt8 × Bool) (w : World) : Prop where
  blk : Blk w b 170 (rdr ⟨st.1.toArray⟩ st.2)
  below : Below b A w
theorem Rs.size {A w : World} {b : Nat} {st : List UInt8 × Bool} (h : Rs A b st w) : b < w.heap.size := h.blk.lt
theorem Rs.call {A w w' : World} {b : Nat} {st : List UInt8 × Bool} (h : Rs A b st w) (hb : Below w.heap.size w w') : Rs A b st w' :=
  ⟨h.blk.below hb h.size, h.below.trans (hb.mono (Nat.le_of_lt h.size))⟩
theorem Rs.alloc {A w : World} {b : Nat} {st : List UInt8 × Bool} (h : Rs A b st w) (o : Obj) : Rs A b st (w.alloc o) := ⟨h.blk.alloc o, h.below.alloc (Nat.le_of_lt h.size) o⟩
theorem Rs.set_ {A w : World} {b : Nat} {st : List UInt8 × Bool} (h : Rs A b st w) {p : Addr} (u : Value) (hp : b < p.block) : Rs A b st (w.setCell p u) := ⟨h.blk.far (by omega) u, h.below.setCell (by omega) u⟩
theorem rs_of (s : ByteArray) (w : World) : Calls Tryz.prog 96 #[.string s] w fun e w' => e = .returned (.pointer (some ⟨w.heap.size, 0, none⟩)) ∧ Rs w w.heap.size (s.data.toList, false) w' := by
  refine (of_any s w).mono ?_
  rintro e w' ⟨rfl, hU⟩
  refine ⟨rfl, by simpa using hU.blk, ?_⟩
  have := hU.grown
  exact ⟨this.os, this.tape, this.output, this.size, fun i hi => this.block i hi (by simp; omega)⟩
/-- A number is read; of other blocks none turns. -/
theorem Z56 {A : World} {b : Nat} {st : List UInt8 × Bool} {w : World} (h : Rs A b st w) (k : Nat) (h1 : 1 ≤ k) (h8 : k ≤ 8) (hs : st.1.length ≤ 1000000) :
    Calls Tryz.prog 97 #[.pointer (some ⟨b, 0, none⟩), .int .i64 k] w fun e w' => e = .returned (.int .u64 (getN st k).1) ∧ Rs A b (getN st k).2 w' ∧ (∀ x t cs, x ≠ b → Blk w x t cs → Blk w' x t cs) ∧ w.heap.size ≤ w'.heap.size := by
  refine (Z7q b st k w h1 h8 h.blk hs).mono ?_
  rintro e w' ⟨rfl, hU⟩
  refine ⟨rfl, ⟨hU.blk, ?_⟩, fun x t cs hx hl => hl.grown hU.grown (by simpa using hx), hU.grown.size⟩
  exact h.below.grown hU.grown (Nat.le_of_lt h.size) (fun k e => by injection e with e; omega)
theorem Z57 {A : World} {b : Nat} {w : World} (h : Rs A b ([], false) w) :
    Calls Tryz.prog 119 #[.pointer (some ⟨b, 0, none⟩)] w fun e w' => e = .returned (.int .i64 0) ∧ w = w' :=
  end_yes b _ w h.blk rfl
theorem rs_end_no {A : World} {b : Nat} {st : List UInt8 × Bool} {w : World} (h : Rs A b st w) (h0 : st ≠ ([], false)) :
    Calls Tryz.prog 119 #[.pointer (some ⟨b, 0, none⟩)] w fun e w' => e = .returned (.int .i64 3) ∧ w = w' := by
  refine end_no b _ _ w h.blk (fun hs he => h0 ?_)
  have : st.1.toArray.size = 0 := he
  rw [List.size_toArray] at this
  exact Prod.ext (List.eq_nil_of_length_eq_zero this) hs
end Go.Proofs.YtakkhglbdljfiaaGreatDoor

/- The walks of octet: Zeros, Take of whatever number, receivers that are nil. -/
namespace Go.Proofs.YtakkhglbdljfiaaGreatDoor
set_option linter.unusedVariables false
set_option linter.unusedSimpArgs false
open Go.RowKit

theorem trimB_nil (l : List UInt8) : Lib.trimB l 0 = [] ↔ ∀ x ∈ l, x = 0 := by
  have hd : ∀ m : List UInt8, m.dropWhile (· == 0) = [] ↔ ∀ x ∈ m, x = 0 := by
    intro m
    induction m with
    | nil => simp
    | cons x m ih =>
      by_cases hx : x = 0
      · subst hx; simp [ih]
      · simp [List.dropWhile_cons, hx]
  unfold Lib.trimB Lib.trimLeftB Lib.trimRightB
  rw [hd]
  have hm : ∀ m : List UInt8, (∀ x ∈ m.dropWhile (· == 0), x = 0) ↔ ∀ x ∈ m, x = 0 := by
    intro m
    induction m with
    | nil => simp
    | cons x m ih =>
      by_cases hx : x = 0
      · subst hx; simpa using ih
      · simp [List.dropWhile_cons, hx]
  have := hm l.reverse
  simpa using this

end Go.Proofs.YtakkhglbdljfiaaGreatDoor

/- A writer and a reader beside each other; the numbers that the statements on octets fix. -/
namespace Go.Proofs.YtakkhglbdljfiaaGreatDoor
set_option linter.unusedVariables false
set_option linter.unusedSimpArgs false
open Go.RowKit

/-- All is zeros; nothing is left. -/
theorem u_zeros {b : Nat} {st : List UInt8 × Bool} {w : World} (h : Blk w b 170 (rdr ⟨st.1.toArray⟩ st.2)) (hs : st.1.length ≤ 1000000) :
    Calls Tryz.prog 98 #[.pointer (some ⟨b, 0, none⟩)] w fun e w' => e = .returned (.bool (st.1.all (· == 0))) ∧ Upd w b 170 (rdr ⟨#[]⟩ st.2) w' := by
  obtain ⟨l, sh⟩ := st
  have hb := h
  have c0 : w.cell? ⟨b, 0, none⟩ = some (.string ⟨l.toArray⟩) := hb.cell 0
  have f0 : w.frozen? ⟨b, 0, none⟩ = false := hb.frozen 0
  have hT : ∀ W : World, Calls Tryz.prog 118 #[.string ⟨l.toArray⟩, .string ⟨#[0]⟩] W fun e w' => e = .returned (.string ⟨(Lib.trimB l 0).toArray⟩) ∧ (w' = W ∨ w' = W.drew) :=
    fun W => Tryz.strings_Trim_one ⟨l.toArray⟩ 0 (by decide) W (by show l.toArray.size ≤ _; simp at hs ⊢; omega)
  have H2 : Upd w b 170 (rdr ⟨#[]⟩ sh) (w.setCell ⟨b, 0, none⟩ (.string ⟨#[]⟩)) := (Upd.refl hb).set 0 _
  have HH := Lib.hid H2
  have HT := Lib.hid hT
  have hz : l.all (· == 0) = decide (Lib.trimB l 0 = []) := by
    rw [Bool.eq_iff_iff, decide_eq_true_iff, trimB_nil, List.all_eq_true]
    simp
  simp only [hz]
  clear hz hb h hT H2
  generalize Lib.trimB l 0 = Z at HT ⊢
  go_enter Tryz.func98, Tryz.ntmps98
  go_wp2_with fail
  refine (HT.out _).mono ?_
  rintro e w2 ⟨rfl, hw⟩
  have hR : Upd w b 170 (rdr ⟨#[]⟩ sh) w2 := by
    rcases hw with rfl | rfl
    · exact HH.out
    · exact HH.out.drew
  have HR := Lib.hid hR
  clear hw hR
  go_wp2_with fail
  go_ret
  exact ⟨Z13 (by cases Z <;> simp), HR.out⟩


/-- The reader's deeds leave the writer. -/
theorem Ws.reader {A w w' : World} {b b2 : Nat} {L : List UInt8} {cs cs' : Array Value} (h : Ws A b L w) (h2 : Blk w b2 170 cs) (hb : b < b2) (hU : Upd w b2 170 cs' w') : Ws A b L w' := by
  obtain ⟨g, hW, hg, hA, hs⟩ := h
  have hne : ∀ k, g = some k → k ≠ b2 := by
    intro k hk e
    subst e
    obtain ⟨v, hown, hv⟩ : ∃ v, w.ownsRowF 0 5 1 v L.length (Lib.byteCells L) ∧ v.ownBlock = g := by
      rcases hW with ⟨v, _, h3, h4⟩ | ⟨v, _, h3, h4⟩
      · exact ⟨v, h3, h4⟩
      · exact ⟨v, h3, h4⟩
    exact Lib.ownBlock_neF hown h2 (by decide) (by rw [hv, hk])
  refine ⟨g, hW.keep (hU.grown.block b hW.lt (by simp; omega)) (fun k hk => hU.grown.block k (hW.own_lt k hk) (by simpa using hne k hk)), hg, hA.grown hU.grown hs (fun k e => by injection e with e; omega), Nat.le_trans hs hU.grown.size⟩
theorem Wr.apart {w : World} {b b2 : Nat} {g : Option Nat} {L : List UInt8} {cs : Array Value} {t : TypeId} (hW : Wr w b g L) (h2 : Blk w b2 t cs) (ht : t ≠ 5) : g ≠ some b2 := by
  intro hk
  obtain ⟨v, hown, hv⟩ : ∃ v, w.ownsRowF 0 5 1 v L.length (Lib.byteCells L) ∧ v.ownBlock = g := by
    rcases hW with ⟨v, _, h3, h4⟩ | ⟨v, _, h3, h4⟩
    · exact ⟨v, h3, h4⟩
    · exact ⟨v, h3, h4⟩
  exact Lib.ownBlock_neF hown h2 ht (by rw [hv, hk])
end Go.Proofs.YtakkhglbdljfiaaGreatDoor

/- A writer beside another block; strings that grow. -/
namespace Go.Proofs.YtakkhglbdljfiaaGreatDoor
set_option linter.unusedVariables false
set_option linter.unusedSimpArgs false
open Go.RowKit

/-- A deed of a writer; another block stays. -/
theorem Ws.deed {A w : World} {b b2 : Nat} {L L1 : List UInt8} {t : TypeId} {cs : Array Value} (h : Ws A b L w) (h2 : Blk w b2 t cs) (ht : t ≠ 5) (hb : b2 ≠ b) {f : FuncId} {args : Array Value} {v : Value}
    (hc : ∀ g, Wr w b g L → Calls Tryz.prog f args w fun e w' => e = .returned v ∧ ∃ g1, Wr w' b g1 L1 ∧ Wrote w b g g1 w') : Calls Tryz.prog f args w fun e w' => e = .returned v ∧ Ws A b L1 w' ∧ Blk w' b2 t cs := by
  obtain ⟨g, hW, hg, hA, hs⟩ := h
  have hne := hW.apart h2 ht
  refine (hc g hW).mono ?_
  rintro e w' ⟨rfl, g', hW', hK⟩
  exact ⟨rfl, ⟨g', hW', hK.own_from hs hg, hK.below hA hs (Nat.le_refl _) hg, Nat.le_trans hs hK.size⟩, (hK.block b2 h2.lt hb (fun e => hne e.symm)).trans h2⟩

end Go.Proofs.YtakkhglbdljfiaaGreatDoor

/- leaf: Bytes. -/
namespace Go.Proofs.YtakkhglbdljfiaaGreatDoor
set_option linter.unusedVariables false
set_option linter.unusedSimpArgs false
open Go.RowKit

theorem Z75 {A w : World} {b b2 : Nat} {L : List UInt8} {t : TypeId} {cs : Array Value} (h : Ws A b L w) (h2 : Blk w b2 t cs) (ht : t ≠ 5) (hb : b2 ≠ b) (n : Nat) (size : Int) (k : Nat) (hk : clampSize size = k) (hn : n < 18446744073709551616) (hlen : L.length + 8 ≤ 140737488355328) :
    Calls Tryz.prog 75 #[.pointer (some ⟨b, 0, none⟩), .int .u64 n, .int .i64 size] w fun e w' => e = .returned (.tuple #[]) ∧ Ws A b (L ++ le n k) w' ∧ Blk w' b2 t cs :=
  hk ▸ h.deed h2 ht hb (fun g h => Z7c _ g L n size _ hn h (by omega))

/-- The first four numbers. -/
def fourN (lv n : Nat) (j : Nat) : Nat := match j with | 0 => 76 | 1 => lv | 2 => n | _ => 0
def fourL (lv n : Nat) (j : Nat) : List UInt8 := match j with | 0 => [] | 1 => [] ++ le 76 1 | 2 => [] ++ le 76 1 ++ le lv 1 | 3 => [] ++ le 76 1 ++ le lv 1 ++ le n 1 | _ => hdL lv n
theorem fourL_succ (lv n j : Nat) (h : j < 4) : fourL lv n (j + 1) = fourL lv n j ++ le (fourN lv n j) 1 := by
  rcases (show j = 0 ∨ j = 1 ∨ j = 2 ∨ j = 3 by omega) with rfl | rfl | rfl | rfl <;> rfl
theorem Z6x (lv n j : Nat) (h : j ≤ 4) : (fourL lv n j).length = j := by
  rcases (show j = 0 ∨ j = 1 ∨ j = 2 ∨ j = 3 ∨ j = 4 by omega) with rfl | rfl | rfl | rfl | rfl <;> simp [fourL, hdL, Z0a]
theorem four_cell {W : World} {Y lv n : Nat} (h : Blk W Y 3 #[.int .i64 76, .int .i64 lv, .int .i64 n, .int .i64 0]) (j : Nat) (hj : j < 4) : W.cell? ⟨Y, j, none⟩ = some (.int .i64 (fourN lv n j)) := by
  rcases (show j = 0 ∨ j = 1 ∨ j = 2 ∨ j = 3 by omega) with rfl | rfl | rfl | rfl
  · exact h.cell 0
  · exact h.cell 1
  · exact h.cell 2
  · exact h.cell 3

set_option maxRecDepth 100000 in
set_option maxHeartbeats 2000000 in
theorem lbytes_yes (lv : Nat) (A : Option Addr) (len cap : Nat) (xs : List (Nat × Nat)) (w : World) (hlen : xs.length = len) (hrow : Row w A 2 pairC xs) (hx : ∀ x ∈ xs, x.1 < 18446744073709551616 ∧ x.2 < 18446744073709551616) (hg : goodB lv xs = true) :
    Calls Tryz.prog 93 #[.agg #[.int .i64 lv, .slice A len cap]] w fun e w' => e = .returned (.tuple #[.string ⟨(sealL (leafL lv xs)).toArray⟩, .int .i64 0]) ∧ Ext w w' := by
  have hgg : lv < 8 ∧ xs.length ≤ 15 := by
    unfold goodB at hg
    simp only [Bool.and_eq_true, decide_eq_true_eq] at hg
    omega
  obtain ⟨hlv, hl15⟩ := hgg
  rw [hlen] at hl15
  have hE := Ext.alloc w (.cells #[.int .i64 lv, .slice A len cap] 47)
  have hX : Blk (w.alloc (.cells #[.int .i64 lv, .slice A len cap] 47)) w.heap.size 47 #[.int .i64 lv, .slice A len cap] := Blk.new _ _ _
  have hrow1 := hrow.ext hE
  have HG := Lib.hid (Z63 lv A len cap xs _ hlen (by omega) hrow1 (fun x h => (hx x h).1))
  rw [hg] at HG
  have hsx : w.heap.size < (w.alloc (.cells #[.int .i64 lv, .slice A len cap] 47)).heap.size := hX.lt
  have HE := Lib.hid hE
  clear hE hg hrow
  go_enter Tryz.func93, Tryz.ntmps93
  go_wp2_with fail
  refine HG.out.mono ?_
  rintro e w1 ⟨rfl, R1⟩
  have hX1 := hX.ext R1
  have hrow2 := hrow1.ext R1
  have E1 := Lib.hid (HE.out.trans R1)
  have hs1 : w.heap.size < w1.heap.size := hX1.lt
  clear hX hrow1 HG HE R1 hsx
  have W0 : Ws w1 w1.heap.size [] (w1.alloc (.cells #[.pointer none, .slice none 0 0] 132)) := Ws.new_ rfl
  have q0 := (W0.blk hX1 hs1).cell 0
  have q1 := (W0.blk hX1 hs1).cell 1
  go_upto_region 5 with fail
  have W1 := W0.alloc (.cells #[.int .i64 76, .int .i64 lv, .int .i64 len, .int .i64 0] 3)
  have hY : Blk ((w1.alloc (.cells #[.pointer none, .slice none 0 0] 132)).alloc (.cells #[.int .i64 76, .int .i64 lv, .int .i64 len, .int .i64 0] 3)) (w1.heap.size + 1) 3 #[.int .i64 76, .int .i64 lv, .int .i64 len, .int .i64 0] := by
    have := Blk.new (w1.alloc (.cells #[.pointer none, .slice none 0 0] 132)) 3 #[.int .i64 76, .int .i64 lv, .int .i64 len, .int .i64 0]
    simpa using this
  clear W0 q0 q1
  go_loopw [6, 19] (fun _ i wr => ∃ j : Nat, j ≤ 4 ∧ i = .int .i64 j ∧ Ws w1 w1.heap.size (fourL lv len j) wr ∧ Blk wr (w1.heap.size + 1) 3 #[.int .i64 76, .int .i64 lv, .int .i64 len, .int .i64 0]) (fun _ i _ => 4 - (intOf i).toNat)
  case atStart => exact ⟨0, by omega, rfl, W1, hY⟩
  case round =>
    clear W1 hY
    obtain ⟨j, hj, rfl, hW, hY⟩ := hrel
    by_cases hlt : j < 4
    · have q0 := four_cell hY j hlt
      have hn : fourN lv len j < 256 := by
        rcases (show j = 0 ∨ j = 1 ∨ j = 2 ∨ j = 3 by omega) with rfl | rfl | rfl | rfl <;> simp [fourN] <;> omega
      have hd := Z75 hW hY (by decide) (by omega) (fourN lv len j) 1 1 (by decide) (by omega) (by rw [Z6x lv len j hj]; omega)
      rw [← fourL_succ lv len j hlt] at hd
      have HD := Lib.hid hd
      generalize fourN lv len j = v at q0 hn HD
      have hwr : IntKind.u64.wrap (v : Int) = (v : Int) := by simp [IntKind.wrap, IntKind.bits, IntKind.signed]; omega
      clear hd hW hY
      go_wp2_with fail
      refine HD.out.mono ?_
      rintro e w2 ⟨rfl, hW, hY⟩
      clear q0
      go_wp2_with fail
      go_roundw
      case rel => exact ⟨j + 1, by omega, by go_num, hW, hY⟩
      case measure => simp [intOf]; omega
    · obtain rfl : j = 4 := by omega
      rw [show ((4 : Nat) : Int) = 4 from rfl]
      have hW : Ws w1 w1.heap.size (hdL lv len ++ pairsL (xs.take 0)) wr := by
        have : fourL lv len 4 = hdL lv len ++ pairsL (xs.take 0) := by simp [fourL, pairsL]
        rw [← this]; exact hW
      have q1 := (hW.blk hX1 hs1).cell 1
      clear hY
      go_upto_region 10 with fail
      clear q1
      go_loopw [8, 30] (fun _ i wr => ∃ j : Nat, j ≤ len ∧ i = .int .i64 j ∧ Ws w1 w1.heap.size (hdL lv len ++ pairsL (xs.take j)) wr) (fun _ i _ => len - (intOf i).toNat)
      case atStart => exact ⟨0, by omega, rfl, hW⟩
      case round =>
        clear hW
        obtain ⟨j, hj, rfl, hW⟩ := hrel
        by_cases hlt : j < len
        · obtain ⟨b0, o0, rfl, hlt0, q0, q1⟩ := hrow2.pair_in hW.below_ (show j < xs.length by omega)
          obtain ⟨hk1, hk2⟩ := hx _ (List.getElem_mem (show j < xs.length by omega))
          have hLt := Z7g xs (show j < xs.length by omega)
          have hLl : (hdL lv len ++ pairsL (xs.take j)).length ≤ 1000 := by
            rw [List.length_append, Z2l, Z1d, List.length_take]; omega
          have hL2 : hdL lv len ++ pairsL (xs.take j) ++ le xs[j].1 8 ++ le xs[j].2 8 = hdL lv len ++ pairsL (xs.take (j + 1)) := by rw [hLt]; simp
          have HL2 := Lib.hid hL2
          clear hLt hL2
          generalize hdL lv len ++ pairsL (xs.take j) = L at hW hLl HL2
          generalize xs[j].1 = K at q0 hk1 HL2
          generalize xs[j].2 = V at q1 hk2 HL2
          have hP : Blk (wr.alloc (.cells #[.int .u64 K, .int .u64 V] 98)) wr.heap.size 98 #[.int .u64 K, .int .u64 V] := Blk.new _ _ _
          have hne : wr.heap.size ≠ w1.heap.size := by have := hW.size; omega
          have C1 := Z75 (hW.alloc (.cells #[.int .u64 K, .int .u64 V] 98)) hP (by decide) hne K 8 8 (by decide) hk1 (by omega)
          clear hW hP
          go_wp2_with fail
          refine C1.mono ?_
          rintro e w2 ⟨rfl, hW, hP⟩
          clear q0 q1 C1
          have q1 := hP.cell 1
          have C2 := Z75 hW hP (by decide) hne V 8 8 (by decide) hk2 (by simp [Z0a]; omega)
          rw [HL2.out] at C2
          clear hW hP
          go_wp2_with fail
          refine C2.mono ?_
          rintro e w3 ⟨rfl, hW, hP⟩
          clear C2 q1 hP
          go_wp2_with fail
          go_roundw
          case rel => exact ⟨j + 1, by omega, by go_num, hW⟩
          case measure => simp [intOf]; omega
        · obtain rfl : j = len := by omega
          have hLe : hdL lv j ++ pairsL (xs.take j) = hdL lv j ++ pairsL xs := by rw [List.take_of_length_le (by omega)]
          have hLl : (hdL lv j ++ pairsL xs).length ≤ 1000 := by rw [List.length_append, Z2l, Z1d]; omega
          rw [hLe] at hW
          have hfin : fillL (hdL lv j ++ pairsL xs) 252 = leafL lv xs := by unfold leafL; rw [hlen]
          have hll := Z1t lv xs (by omega)
          have C1 := ws_fill hW 252 (by decide) (by omega)
          rw [hfin] at C1
          obtain ⟨L, hLL⟩ : ∃ L, leafL lv xs = L := ⟨_, rfl⟩
          rw [hLL] at C1 hll
          have HLL := Lib.hid hLL
          clear hLL
          clear hW hfin hLe hLl hrow2 hx
          go_wp2_with fail
          refine C1.mono ?_
          rintro e w2 ⟨rfl, hW⟩
          clear C1
          have C2 := ws_str hW
          go_wp2_with fail
          refine C2.mono ?_
          rintro e w3 ⟨rfl, hW⟩
          clear C2
          have hEx := E1.out.trans hW.below_
          clear hW
          go_wp2_with fail
          refine (Z5r ⟨L.toArray⟩ _ (by show L.toArray.size ≤ _; rw [List.size_toArray, hll]; decide)).mono ?_
          rintro e w4 ⟨rfl, hb4⟩
          go_wp2_with fail
          go_ret2
          exact ⟨by rw [HLL.out]; rfl, hEx.trans hb4⟩
end Go.Proofs.YtakkhglbdljfiaaGreatDoor
