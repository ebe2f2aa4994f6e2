/- A writer of the call's own: what lies below it has not turned. -/
import Derived.Test.YtoiifcmjmjkcaaaKShipBack01
import Derived.Test.YtoiifcmjmjkcaaaKShipBack10
import Derived.Test.YtoiifcmjmjkcaaaKShipBack11
namespace Go.Proofs.Ytoiifcmjmjkcaaa
set_option linter.unusedVariables false
set_option linter.unusedSimpArgs false
open Go.RowKit

/-- Block b is a writer that holds L; below b the world is as A. -/
def Ws (A : World) (b : Nat) (L : List UInt8) (w : World) : Prop := ∃ g, Wr w b g L ∧ (∀ k, g = some k → b ≤ k) ∧ Below b A w ∧ b ≤ w.heap.size
section
variable {A w w' : World} {b : Nat} {L : List UInt8}
theorem Ws.new_ {b : Nat} (hb : b = A.heap.size) : Ws A b [] (A.alloc (.cells #[.pointer none, .slice none 0 0] 83)) :=
  ⟨none, Wr.new_ hb, (fun k e => by cases e), by subst hb; exact Below.alloc (Below.refl _ _) (Nat.le_refl _) _, by subst hb; simp⟩
theorem Ws.blk (h : Ws A b L w) {k : Nat} {t : TypeId} {cs : Array Value} (hk : Blk A k t cs) (hb : k < b) : Blk w k t cs := by
  obtain ⟨g, _, _, hA, _⟩ := h
  exact hk.below hA hb
theorem Ws.below_ (h : Ws A b L w) : Below b A w := by
  obtain ⟨g, _, _, hA, _⟩ := h
  exact hA
theorem Ws.size (h : Ws A b L w) : b < w.heap.size := by
  obtain ⟨g, hW, _, _, hs⟩ := h
  exact hW.lt
theorem Ws.drew (h : Ws A b L w) : Ws A b L w.drew := by
  obtain ⟨g, hW, hg, hA, hs⟩ := h
  exact ⟨g, hW.drew, hg, hA.drew, hs⟩
theorem Ws.alloc (h : Ws A b L w) (o : Obj) : Ws A b L (w.alloc o) := by
  obtain ⟨g, hW, hg, hA, hs⟩ := h
  exact ⟨g, hW.alloc o, hg, hA.alloc hs o, by simp; omega⟩
theorem Ws.call (h : Ws A b L w) (hb : Below w.heap.size w w') : Ws A b L w' := by
  obtain ⟨g, hW, hg, hA, hs⟩ := h
  exact ⟨g, hW.below hb, hg, hA.trans (hb.mono hs), Nat.le_trans hs hb.size⟩
theorem Ws.wrote (h : Ws A b L w) {L' : List UInt8} (hh : ∀ g, Wr w b g L → (∃ g', Wr w' b g' L' ∧ Wrote w b g g' w')) : Ws A b L' w' := by
  obtain ⟨g, hW, hg, hA, hs⟩ := h
  obtain ⟨g', hW', hK⟩ := hh g hW
  exact ⟨g', hW', hK.own_from hs hg, hK.below hA hs (Nat.le_refl _) hg, Nat.le_trans hs hK.size⟩
end

theorem ws_put {A : World} {b : Nat} {L : List UInt8} {w : World} (h : Ws A b L w) (n : Nat) (size : Int) (k : Nat) (hk : clampSize size = k) (hn : n < 18446744073709551616) (hlen : L.length + 8 ≤ 140737488355328) :
    Calls Try.prog 44 #[.pointer (some ⟨b, 0, none⟩), .int .u64 n, .int .i64 size] w fun e w' => e = .returned (.tuple #[]) ∧ Ws A b (L ++ le n k) w' := by
  subst hk
  obtain ⟨g, hW, hg, hA, hs⟩ := h
  refine (put_any b g L n size w hn hW hlen).mono ?_
  rintro e w' ⟨rfl, g', hW', hK⟩
  exact ⟨rfl, g', hW', hK.own_from hs hg, hK.below hA hs (Nat.le_refl _) hg, Nat.le_trans hs hK.size⟩
theorem ws_text {A : World} {b : Nat} {L : List UInt8} {w : World} (h : Ws A b L w) (s : ByteArray) (hlen : L.length + s.size ≤ 140737488355328) :
    Calls Try.prog 45 #[.pointer (some ⟨b, 0, none⟩), .string s] w fun e w' => e = .returned (.tuple #[]) ∧ Ws A b (L ++ s.data.toList) w' := by
  obtain ⟨g, hW, hg, hA, hs⟩ := h
  refine (text_any b g L s w hW hlen).mono ?_
  rintro e w' ⟨rfl, g', hW', hK⟩
  exact ⟨rfl, g', hW', hK.own_from hs hg, hK.below hA hs (Nat.le_refl _) hg, Nat.le_trans hs hK.size⟩
theorem ws_string {A : World} {b : Nat} {L : List UInt8} {w : World} (h : Ws A b L w) (h0 : L ≠ []) :
    Calls Try.prog 47 #[.pointer (some ⟨b, 0, none⟩)] w fun e w' => e = .returned (.string ⟨L.toArray⟩) ∧ Ws A b L w' := by
  obtain ⟨g, hW, hg, hA, hs⟩ := h
  refine (ostring_some b g L w hW h0).mono ?_
  rintro e w' ⟨rfl, hW', hK⟩
  exact ⟨rfl, g, hW', hK.own_from hs hg, hK.below hA hs (Nat.le_refl _) hg, Nat.le_trans hs hK.size⟩
end Go.Proofs.Ytoiifcmjmjkcaaa

/- ship: zeros, write. -/
namespace Go.Proofs.Ytoiifcmjmjkcaaa
set_option linter.unusedVariables false
set_option linter.unusedSimpArgs false
open Go.RowKit

theorem rep0 (c : Nat) : Lib.repeatL [0] c = List.replicate c (0 : UInt8) := by
  induction c with
  | zero => rfl
  | succ c ih => rw [Lib.repeatL, ih]; rfl
def zf (_ : Nat) : UInt8 := 0
theorem txtL_zero (n : Nat) : txtL zf n = List.replicate (16 * n) 0 := by
  induction n with
  | zero => rfl
  | succ n ih =>
    rw [txtL, ih, show 16 * (n + 1) = 16 * n + 16 by omega, ← List.replicate_append_replicate]
    rfl
theorem zeros_any (n : Nat) (hn : n ≤ 100000) (q : ByteArray) (hq : txt zf n = q) (w : World) : Calls Try.prog 29 #[.int .i64 n] w fun e w' => e = .returned (.string q) ∧ Ext w w' := by
  have HR : ∀ W : World, Calls Try.prog 43 #[.string ⟨#[0]⟩, .int .i64 ((16 * n : Nat) : Int)] W fun e w' => e = .returned (.string q) ∧ Ext W w' := by
    intro W
    have := Try.strings_Repeat ⟨#[0]⟩ (16 * n) W (by omega) (by show 1 * (16 * n) ≤ _; omega)
    rw [show (⟨#[0]⟩ : ByteArray).data.toList = [0] from rfl, rep0, ← txtL_zero] at this
    rw [← hq]
    exact this
  have H := Lib.hid HR
  have hm : IntKind.i64.wrap ((n : Int) * 16) = ((16 * n : Nat) : Int) := by rw [IntWalk.i64_in _ (by omega)]; omega
  clear HR hq
  obtain ⟨m, hmm⟩ : ∃ m, 16 * n = m := ⟨_, rfl⟩
  rw [hmm] at H hm
  have hm2 : (n : Int) * 16 = (m : Int) := by omega
  clear hmm
  go_enter Try.func29, Try.ntmps29
  go_wp2_with fail
  refine (H.out _).mono ?_
  rintro e w1 ⟨rfl, R1⟩
  go_wp2_with fail
  go_ret
  exact ⟨rfl, R1⟩

/-- An extent's bytes; those of several. -/
def extL (e : Nat × ByteArray) : List UInt8 := le e.1 4 ++ (le (e.2.size / 16) 4 ++ e.2.data.toList)
def extsL : List (Nat × ByteArray) → List UInt8
  | [] => []
  | x :: L => extL x ++ extsL L
theorem extL_len (e : Nat × ByteArray) : (extL e).length = 8 + e.2.size := by simp [extL, le_length]; omega
theorem extsL_append (L M : List (Nat × ByteArray)) : extsL (L ++ M) = extsL L ++ extsL M := by
  induction L with
  | nil => rfl
  | cons x L ih => simp only [List.cons_append, extsL, ih, List.append_assoc]
theorem extsL_take (L : List (Nat × ByteArray)) (j : Nat) (hj : j < L.length) : extsL (L.take (j + 1)) = extsL (L.take j) ++ le (atX L j) 4 ++ le ((datX L j).size / 16) 4 ++ (datX L j).data.toList := by
  rw [List.take_add_one, List.getElem?_eq_getElem hj, extsL_append]
  simp [extsL, extL, atX, datX, List.getD, hj]
theorem extsL_take_le (L : List (Nat × ByteArray)) (j : Nat) : (extsL (L.take j)).length ≤ (extsL L).length := by
  have := congrArg List.length (extsL_append (L.take j) (L.drop j))
  rw [List.take_append_drop, List.length_append] at this
  omega
/-- A stream's bytes ahead of the extents' own. -/
def strH (k n was is m : Nat) : List UInt8 := [] ++ le 83 1 ++ le k 1 ++ le n 4 ++ le was 4 ++ le is 4 ++ le m 4
theorem strH_len (k n was is m : Nat) : (strH k n was is m).length = 18 := by simp [strH, le_length]
def strL (k n was is : Nat) (L : List (Nat × ByteArray)) : List UInt8 := strH k n was is L.length ++ extsL L
abbrev streamV (k n was is : Nat) : Value := .agg #[.int .i64 k, .int .i64 n, .int .u32 was, .int .u32 is]

theorem wr_apart {w : World} {b b2 : Nat} {g : Option Nat} {L : List UInt8} {cs : Array Value} {t : TypeId} (hW : Wr w b g L) (h2 : Blk w b2 t cs) (ht : t ≠ 5) : g ≠ some b2 := by
  intro hk
  obtain ⟨v, hown, hv⟩ : ∃ v, w.ownsRowF 0 5 1 v L.length (Lib.byteCells L) ∧ v.ownBlock = g := by
    rcases hW with ⟨v, _, h3, h4⟩ | ⟨v, _, h3, h4⟩
    · exact ⟨v, h3, h4⟩
    · exact ⟨v, h3, h4⟩
  exact Lib.ownBlock_neF hown h2 ht (by rw [hv, hk])
theorem ws_deed {A w : World} {b b2 : Nat} {L L1 : List UInt8} {t : TypeId} {cs : Array Value} (h : Ws A b L w) (h2 : Blk w b2 t cs) (ht : t ≠ 5) (hb : b2 ≠ b) {f : FuncId} {args : Array Value} {v : Value}
    (hc : ∀ g, Wr w b g L → Calls Try.prog f args w fun e w' => e = .returned v ∧ ∃ g1, Wr w' b g1 L1 ∧ Wrote w b g g1 w') : Calls Try.prog f args w fun e w' => e = .returned v ∧ Ws A b L1 w' ∧ Blk w' b2 t cs := by
  obtain ⟨g, hW, hg, hA, hs⟩ := h
  have hne := wr_apart hW h2 ht
  refine (hc g hW).mono ?_
  rintro e w' ⟨rfl, g', hW', hK⟩
  exact ⟨rfl, ⟨g', hW', hK.own_from hs hg, hK.below hA hs (Nat.le_refl _) hg, Nat.le_trans hs hK.size⟩, (hK.block b2 h2.lt hb (fun e => hne e.symm)).trans h2⟩
theorem ws_putA {A w : World} {b b2 : Nat} {L : List UInt8} {t : TypeId} {cs : Array Value} (h : Ws A b L w) (h2 : Blk w b2 t cs) (ht : t ≠ 5) (hb : b2 ≠ b) (n : Nat) (size : Int) (k : Nat) (hk : clampSize size = k) (hn : n < 18446744073709551616) (hlen : L.length + 8 ≤ 140737488355328) :
    Calls Try.prog 44 #[.pointer (some ⟨b, 0, none⟩), .int .u64 n, .int .i64 size] w fun e w' => e = .returned (.tuple #[]) ∧ Ws A b (L ++ le n k) w' ∧ Blk w' b2 t cs :=
  hk ▸ ws_deed h h2 ht hb (fun g hW => put_any _ g L n size _ hn hW (by omega))

def fourS (n was is m : Nat) (j : Nat) : Nat := match j with | 0 => n | 1 => was | 2 => is | _ => m
def fourT (k n was is m : Nat) (j : Nat) : List UInt8 := match j with | 0 => [] ++ le 83 1 ++ le k 1 | 1 => [] ++ le 83 1 ++ le k 1 ++ le n 4 | 2 => [] ++ le 83 1 ++ le k 1 ++ le n 4 ++ le was 4 | 3 => [] ++ le 83 1 ++ le k 1 ++ le n 4 ++ le was 4 ++ le is 4 | _ => strH k n was is m
theorem fourT_succ (k n was is m j : Nat) (h : j < 4) : fourT k n was is m (j + 1) = fourT k n was is m j ++ le (fourS n was is m j) 4 := by
  rcases (show j = 0 ∨ j = 1 ∨ j = 2 ∨ j = 3 by omega) with rfl | rfl | rfl | rfl <;> rfl
theorem fourT_length (k n was is m j : Nat) (h : j ≤ 4) : (fourT k n was is m j).length ≤ 18 := by
  rcases (show j = 0 ∨ j = 1 ∨ j = 2 ∨ j = 3 ∨ j = 4 by omega) with rfl | rfl | rfl | rfl | rfl <;> simp [fourT, strH, le_length]
theorem fourS_cell {W : World} {Y n was is m : Nat} (h : Blk W Y 67 #[.int .u64 n, .int .u64 was, .int .u64 is, .int .u64 m]) (j : Nat) (hj : j < 4) : W.cell? ⟨Y, j, none⟩ = some (.int .u64 (fourS n was is m j)) := by
  rcases (show j = 0 ∨ j = 1 ∨ j = 2 ∨ j = 3 by omega) with rfl | rfl | rfl | rfl
  · exact h.cell 0
  · exact h.cell 1
  · exact h.cell 2
  · exact h.cell 3
theorem u64w (v : Nat) (h : v < 18446744073709551616) : IntKind.u64.wrap (v : Int) = (v : Int) := by simp [IntKind.wrap, IntKind.bits, IntKind.signed]; omega

set_option maxRecDepth 100000 in
set_option maxHeartbeats 4000000 in
theorem write_any (k n was is : Nat) (A : Option Addr) (len cap : Nat) (L : List (Nat × ByteArray)) (w : World) (hlen : L.length = len) (hk : k < 256) (hn : n < 4294967296) (hwas : was < 4294967296) (his : is < 4294967296) (hl : len ≤ 100000) (hrow : Row w A 2 xC L) (hx : ∀ x ∈ L, x.1 < 4294967296 ∧ x.2.size < 4294967296) (hs : (extsL L).length ≤ 1000000) :
    Calls Try.prog 30 #[streamV k n was is, .slice A len cap] w fun e w' => e = .returned (.string ⟨(sealL (strL k n was is L)).toArray⟩) ∧ Ext w w' := by
  have hE := Ext.alloc w (.cells #[.int .i64 k, .int .i64 n, .int .u32 was, .int .u32 is] 44)
  have hX : Blk (w.alloc (.cells #[.int .i64 k, .int .i64 n, .int .u32 was, .int .u32 is] 44)) w.heap.size 44 #[.int .i64 k, .int .i64 n, .int .u32 was, .int .u32 is] := Blk.new _ _ _
  have hrow1 := hrow.extx hE
  have hsx := hX.lt
  have W0 : Ws (w.alloc (.cells #[.int .i64 k, .int .i64 n, .int .u32 was, .int .u32 is] 44)) (w.alloc (.cells #[.int .i64 k, .int .i64 n, .int .u32 was, .int .u32 is] 44)).heap.size [] ((w.alloc (.cells #[.int .i64 k, .int .i64 n, .int .u32 was, .int .u32 is] 44)).alloc (.cells #[.pointer none, .slice none 0 0] 83)) := Ws.new_ rfl
  have uk := u64w k (by omega)
  have un := u64w n (by omega)
  have uw := u64w was (by omega)
  have ui := u64w is (by omega)
  have um := u64w len (by omega)
  go_enter Try.func30, Try.ntmps30
  go_upto_region 2 with fail
  generalize hw1 : w.alloc (.cells #[.int .i64 k, .int .i64 n, .int .u32 was, .int .u32 is] 44) = w1 at W0 hX hE hrow1 hsx ⊢
  have hz1 : w1.heap.size = w.heap.size + 1 := by rw [← hw1]; simp
  clear hw1 hrow
  have e1 : w.heap.size + 1 = w1.heap.size := hz1.symm
  try rw [e1]
  clear e1 hz1
  go_wp2_with fail
  refine (ws_put W0 83 1 1 (by decide) (by decide) (by simp)).mono ?_
  rintro e w2 ⟨rfl, W1⟩
  clear W0
  have k0 := (W1.blk hX hsx).cell 0
  go_wp2_with fail
  refine (ws_put W1 k 1 1 (by decide) (by omega) (by simp [le_length])).mono ?_
  rintro e w3 ⟨rfl, W2⟩
  clear W1 k0
  have k1 := (W2.blk hX hsx).cell 1
  have k2 := (W2.blk hX hsx).cell 2
  have k3 := (W2.blk hX hsx).cell 3
  have hsb := W2.size
  go_upto_region 5 with fail
  have W3 : Ws w1 w1.heap.size (fourT k n was is len 0) (w3.alloc (.cells #[.int .u64 n, .int .u64 was, .int .u64 is, .int .u64 len] 67)) := W2.alloc _
  have hY : Blk (w3.alloc (.cells #[.int .u64 n, .int .u64 was, .int .u64 is, .int .u64 len] 67)) w3.heap.size 67 #[.int .u64 n, .int .u64 was, .int .u64 is, .int .u64 len] := Blk.new _ _ _
  clear W2 k1 k2 k3 uk un uw ui um
  go_loopw [7, 29] (fun _ i wr => ∃ j : Nat, j ≤ 4 ∧ i = .int .i64 j ∧ Ws w1 w1.heap.size (fourT k n was is len j) wr ∧ Blk wr w3.heap.size 67 #[.int .u64 n, .int .u64 was, .int .u64 is, .int .u64 len]) (fun _ i _ => 4 - (intOf i).toNat)
  case atStart => exact ⟨0, by omega, rfl, W3, hY⟩
  case round =>
    clear W3 hY
    obtain ⟨j, hj, rfl, hW, hY⟩ := hrel
    by_cases hlt : j < 4
    · have q0 := fourS_cell hY j hlt
      have hnn : fourS n was is len j < 18446744073709551616 := by
        rcases (show j = 0 ∨ j = 1 ∨ j = 2 ∨ j = 3 by omega) with rfl | rfl | rfl | rfl <;> simp [fourS] <;> omega
      have hd := ws_putA hW hY (by decide) (by omega) (fourS n was is len j) 4 4 (by decide) hnn (by have := fourT_length k n was is len j hj; omega)
      rw [← fourT_succ k n was is len j hlt] at hd
      have HD := Lib.hid hd
      generalize fourS n was is len j = v at q0 hnn HD
      clear hd hW hY
      go_wp2_with fail
      refine HD.out.mono ?_
      rintro e w4 ⟨rfl, hW, hY⟩
      clear q0
      go_wp2_with fail
      go_roundw
      case rel => exact ⟨j + 1, by omega, by go_num, hW, hY⟩
      case measure => simp [intOf]; omega
    · obtain rfl : j = 4 := by omega
      rw [show ((4 : Nat) : Int) = 4 from rfl]
      have hW : Ws w1 w1.heap.size (strH k n was is len ++ extsL (L.take 0)) wr := by
        have : fourT k n was is len 4 = strH k n was is len ++ extsL (L.take 0) := by simp [fourT, extsL]
        rw [← this]; exact hW
      clear hY
      go_upto_region 10 with fail
      go_loopw [9, 38] (fun _ i wr => ∃ j : Nat, j ≤ len ∧ i = .int .i64 j ∧ Ws w1 w1.heap.size (strH k n was is len ++ extsL (L.take j)) wr) (fun _ i _ => len - (intOf i).toNat)
      case atStart => exact ⟨0, by omega, rfl, hW⟩
      case round =>
        clear hW
        obtain ⟨j, hj, rfl, hW⟩ := hrel
        by_cases hlt : j < len
        · have hjx : j < L.length := by omega
          obtain ⟨b0, o0, rfl, hl0⟩ := hrow1.x_in hW.below_ hjx
          obtain ⟨q0, q1⟩ := hrow1.x_at hW.below_ hjx
          have hxj := hx _ (List.getElem_mem hjx)
          have e : L[j] = (atX L j, datX L j) := by simp [atX, datX, List.getD, hjx]
          rw [e] at hxj
          simp only at hxj
          have hLl : (strH k n was is len ++ extsL (L.take j)).length ≤ 1000018 := by
            rw [List.length_append, strH_len]; have := extsL_take_le L j; omega
          have hLt := extsL_take L j hjx
          have hL2 : strH k n was is len ++ extsL (L.take j) ++ le (atX L j) 4 ++ le ((datX L j).size / 16) 4 ++ (datX L j).data.toList = strH k n was is len ++ extsL (L.take (j + 1)) := by rw [hLt]; simp
          have HL2 := Lib.hid hL2
          clear hLt hL2 e
          generalize strH k n was is len ++ extsL (L.take j) = B at hW hLl HL2
          generalize atX L j = K at q0 hxj HL2
          generalize datX L j = D at q1 hxj HL2
          obtain ⟨Z, hZ⟩ : ∃ Z, D.size / 16 = Z := ⟨_, rfl⟩
          rw [hZ] at HL2
          have hzi : (D.size : Int) / 16 = (Z : Int) := by omega
          have uK := u64w K (by omega)
          have uZ := u64w Z (by omega)
          have hP : Blk (wr.alloc (.cells #[.int .i64 K, .string D] 57)) wr.heap.size 57 #[.int .i64 K, .string D] := Blk.new _ _ _
          have hne : wr.heap.size ≠ w1.heap.size := by have := hW.size; omega
          have C1 := ws_putA (hW.alloc (.cells #[.int .i64 K, .string D] 57)) hP (by decide) hne K 4 4 (by decide) (by omega) (by omega)
          clear hW hP hZ
          go_wp2_with fail
          refine C1.mono ?_
          rintro e w4 ⟨rfl, hW, hP⟩
          clear q0 q1 C1
          have q1 := hP.cell 1
          have C2 := ws_putA hW hP (by decide) hne Z 4 4 (by decide) (by omega) (by simp [le_length]; omega)
          go_wp2_with fail
          refine C2.mono ?_
          rintro e w5 ⟨rfl, hW, hP⟩
          clear q1 C2
          have q1 := hP.cell 1
          have C3 := ws_text hW D (by simp [le_length]; omega)
          rw [HL2.out] at C3
          go_wp2_with fail
          refine C3.mono ?_
          rintro e w6 ⟨rfl, hW⟩
          clear q1 C3 hP
          go_wp2_with fail
          go_roundw
          case rel => exact ⟨j + 1, by omega, by go_num, hW⟩
          case measure => simp [intOf]; omega
        · obtain rfl : j = len := by omega
          have hLe : strH k n was is j ++ extsL (L.take j) = strL k n was is L := by rw [List.take_of_length_le (by omega)]; unfold strL; rw [hlen]
          have hll : (strL k n was is L).length ≤ 1000018 := by unfold strL; rw [List.length_append, strH_len]; omega
          have hl0 : strL k n was is L ≠ [] := by
            intro h
            have := congrArg List.length h
            unfold strL at this
            rw [List.length_append, strH_len] at this
            simp at this
          rw [hLe] at hW
          obtain ⟨Q, hQ⟩ : ∃ Q, strL k n was is L = Q := ⟨_, rfl⟩
          rw [hQ] at hW hll hl0
          have HQ := Lib.hid hQ
          have C1 := ws_string hW hl0
          clear hW hLe hQ hl0
          go_wp2_with fail
          refine C1.mono ?_
          rintro e w4 ⟨rfl, hW⟩
          have hEx := hE.trans hW.below_
          clear C1 hW
          go_wp2_with fail
          refine (seal_any ⟨Q.toArray⟩ _ (by show Q.toArray.size ≤ _; rw [List.size_toArray]; omega)).mono ?_
          rintro e w5 ⟨rfl, hb5⟩
          go_wp2_with fail
          go_ret
          exact ⟨by rw [HQ.out]; rfl, hEx.trans hb5⟩
end Go.Proofs.Ytoiifcmjmjkcaaa
