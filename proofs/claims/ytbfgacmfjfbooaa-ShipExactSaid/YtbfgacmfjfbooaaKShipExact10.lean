/- A writer of the call's own: what lies below it has not turned. -/
import Derived.Test.YtbfgacmfjfbooaaKShipExact05
import Derived.Test.YtbfgacmfjfbooaaKShipExact08
import Derived.Test.YtbfgacmfjfbooaaKShipExact09
import Derived.Test.YtbfgacmfjfbooaaKShipExact01
namespace Go.Proofs.Ytbfgacmfjfbooaa
set_option linter.unusedVariables false
set_option linter.unusedSimpArgs false
open Go.RowKit

/-- Block b is a writer that holds L; below b the world is as A. -/
def Ws (A : World) (b : Nat) (L : List UInt8) (w : World) : Prop := ∃ g, Wr w b g L ∧ (∀ k, g = some k → b ≤ k) ∧ Below b A w ∧ b ≤ w.heap.size
section
variable {A w w' : World} {b : Nat} {L : List UInt8}
theorem Ws.new_ {b : Nat} (hb : b = A.heap.size) : Ws A b [] (A.alloc (.cells #[.pointer none, .slice none 0 0] 113)) :=
  ⟨none, Wr.new_ hb, (fun k e => by cases e), by subst hb; exact Below.alloc (Below.refl _ _) (Nat.le_refl _) _, by subst hb; simp⟩
theorem Ws.blk (h : Ws A b L w) {k : Nat} {t : TypeId} {cs : Array Value} (hk : Blk A k t cs) (hb : k < b) : Blk w k t cs := by
  obtain ⟨g, _, _, hA, _⟩ := h
  exact hk.below hA hb
theorem Ws.below_ (h : Ws A b L w) : Below b A w := by
  obtain ⟨g, _, _, hA, _⟩ := h
  exact hA
theorem Ws.size (h : Ws A b L w) : b < w.heap.size := by
  obtain ⟨g, hW, _, _, hs⟩ := h
  exact hW.lt
theorem Ws.drew (h : Ws A b L w) : Ws A b L w.drew := by
  obtain ⟨g, hW, hg, hA, hs⟩ := h
  exact ⟨g, hW.drew, hg, hA.drew, hs⟩
theorem Ws.alloc (h : Ws A b L w) (o : Obj) : Ws A b L (w.alloc o) := by
  obtain ⟨g, hW, hg, hA, hs⟩ := h
  exact ⟨g, hW.alloc o, hg, hA.alloc hs o, by simp; omega⟩
theorem Ws.call (h : Ws A b L w) (hb : Below w.heap.size w w') : Ws A b L w' := by
  obtain ⟨g, hW, hg, hA, hs⟩ := h
  exact ⟨g, hW.below hb, hg, hA.trans (hb.mono hs), Nat.le_trans hs hb.size⟩
end

theorem ws_put {A : World} {b : Nat} {L : List UInt8} {w : World} (h : Ws A b L w) (n : Nat) (size : Int) (k : Nat) (hk : clampSize size = k) (hn : n < 18446744073709551616) (hlen : L.length + 8 ≤ 140737488355328) :
    Calls Try.prog 44 #[.pointer (some ⟨b, 0, none⟩), .int .u64 n, .int .i64 size] w fun e w' => e = .returned (.tuple #[]) ∧ Ws A b (L ++ le n k) w' := by
  subst hk
  obtain ⟨g, hW, hg, hA, hs⟩ := h
  refine (Z5x b g L n size w hn hW hlen).mono ?_
  rintro e w' ⟨rfl, g', hW', hK⟩
  exact ⟨rfl, g', hW', hK.own_from hs hg, hK.below hA hs (Nat.le_refl _) hg, Nat.le_trans hs hK.size⟩
theorem ws_text {A : World} {b : Nat} {L : List UInt8} {w : World} (h : Ws A b L w) (s : ByteArray) (hlen : L.length + s.size ≤ 140737488355328) :
    Calls Try.prog 45 #[.pointer (some ⟨b, 0, none⟩), .string s] w fun e w' => e = .returned (.tuple #[]) ∧ Ws A b (L ++ s.data.toList) w' := by
  obtain ⟨g, hW, hg, hA, hs⟩ := h
  refine (Z6l b g L s w hW hlen).mono ?_
  rintro e w' ⟨rfl, g', hW', hK⟩
  exact ⟨rfl, g', hW', hK.own_from hs hg, hK.below hA hs (Nat.le_refl _) hg, Nat.le_trans hs hK.size⟩
theorem Z7v {A : World} {b : Nat} {L : List UInt8} {w : World} (h : Ws A b L w) (h0 : L ≠ []) :
    Calls Try.prog 47 #[.pointer (some ⟨b, 0, none⟩)] w fun e w' => e = .returned (.string ⟨L.toArray⟩) ∧ Ws A b L w' := by
  obtain ⟨g, hW, hg, hA, hs⟩ := h
  refine (Z2s b g L w hW h0).mono ?_
  rintro e w' ⟨rfl, hW', hK⟩
  exact ⟨rfl, g, hW', hK.own_from hs hg, hK.below hA hs (Nat.le_refl _) hg, Nat.le_trans hs hK.size⟩

theorem rep0 (c : Nat) : Lib.repeatL [0] c = List.replicate c (0 : UInt8) := by
  induction c with
  | zero => rfl
  | succ c ih => rw [Lib.repeatL, ih]; rfl
def zf (_ : Nat) : UInt8 := 0
theorem Z4t (n : Nat) : txtL zf n = List.replicate (16 * n) 0 := by
  induction n with
  | zero => rfl
  | succ n ih =>
    rw [txtL, ih, show 16 * (n + 1) = 16 * n + 16 by omega, ← List.replicate_append_replicate]
    rfl
theorem Z1l (n : Nat) (hn : n ≤ 100000) (q : ByteArray) (hq : txt zf n = q) (w : World) : Calls Try.prog 19 #[.int .i64 n] w fun e w' => e = .returned (.string q) ∧ Ext w w' := by
  have HR : ∀ W : World, Calls Try.prog 40 #[.string ⟨#[0]⟩, .int .i64 ((16 * n : Nat) : Int)] W fun e w' => e = .returned (.string q) ∧ Ext W w' := by
    intro W
    have := Try.strings_Repeat ⟨#[0]⟩ (16 * n) W (by omega) (by show 1 * (16 * n) ≤ _; omega)
    rw [show (⟨#[0]⟩ : ByteArray).data.toList = [0] from rfl, rep0, ← Z4t] at this
    rw [← hq]
    exact this
  have H := Lib.hid HR
  have hm : IntKind.i64.wrap ((n : Int) * 16) = ((16 * n : Nat) : Int) := by rw [IntWalk.i64_in _ (by omega)]; omega
  clear HR hq
  obtain ⟨m, hmm⟩ : ∃ m, 16 * n = m := ⟨_, rfl⟩
  rw [hmm] at H hm
  have hm2 : (n : Int) * 16 = (m : Int) := by omega
  clear hmm
  go_enter Try.func19, Try.ntmps19
  go_wp2_with fail
  refine (H.out _).mono ?_
  rintro e w1 ⟨rfl, R1⟩
  go_wp2_with fail
  go_ret
  exact ⟨rfl, R1⟩

/-- An extent's bytes; those of several. -/
def extL (e : Nat × ByteArray) : List UInt8 := le e.1 4 ++ (le (e.2.size / 16) 4 ++ e.2.data.toList)
def extsL : List (Nat × ByteArray) → List UInt8
  | [] => []
  | x :: L => extL x ++ extsL L
theorem extL_len (e : Nat × ByteArray) : (extL e).length = 8 + e.2.size := by simp [extL, Z01]; omega
theorem Z1t (L M : List (Nat × ByteArray)) : extsL (L ++ M) = extsL L ++ extsL M := by
  induction L with
  | nil => rfl
  | cons x L ih => simp only [List.cons_append, extsL, ih, List.append_assoc]
theorem Z41 (L : List (Nat × ByteArray)) (j : Nat) (hj : j < L.length) : extsL (L.take (j + 1)) = extsL (L.take j) ++ le (atX L j) 4 ++ le ((datX L j).size / 16) 4 ++ (datX L j).data.toList := by
  rw [List.take_add_one, List.getElem?_eq_getElem hj, Z1t]
  simp [extsL, extL, atX, datX, List.getD, hj]
theorem Z1h (L : List (Nat × ByteArray)) (j : Nat) : (extsL (L.take j)).length ≤ (extsL L).length := by
  have := congrArg List.length (Z1t (L.take j) (L.drop j))
  rw [List.take_append_drop, List.length_append] at this
  omega
/-- A stream's bytes ahead of the extents' own. -/
def strH (k n was is m : Nat) : List UInt8 := [] ++ le 83 1 ++ le k 1 ++ le n 4 ++ le was 4 ++ le is 4 ++ le m 4
theorem Z1w (k n was is m : Nat) : (strH k n was is m).length = 18 := by simp [strH, Z01]
def strL (k n was is : Nat) (L : List (Nat × ByteArray)) : List UInt8 := strH k n was is L.length ++ extsL L
abbrev streamV (k n was is : Nat) : Value := .agg #[.int .i64 k, .int .i64 n, .int .u32 was, .int .u32 is]

theorem wr_apart {w : World} {b b2 : Nat} {g : Option Nat} {L : List UInt8} {cs : Array Value} {t : TypeId} (hW : Wr w b g L) (h2 : Blk w b2 t cs) (ht : t ≠ 5) : g ≠ some b2 := by
  intro hk
  obtain ⟨v, hown, hv⟩ : ∃ v, w.ownsRowF 0 5 1 v L.length (Lib.byteCells L) ∧ v.ownBlock = g := by
    rcases hW with ⟨v, _, h3, h4⟩ | ⟨v, _, h3, h4⟩
    · exact ⟨v, h3, h4⟩
    · exact ⟨v, h3, h4⟩
  exact Lib.ownBlock_neF hown h2 ht (by rw [hv, hk])
theorem ws_deed {A w : World} {b b2 : Nat} {L L1 : List UInt8} {t : TypeId} {cs : Array Value} (h : Ws A b L w) (h2 : Blk w b2 t cs) (ht : t ≠ 5) (hb : b2 ≠ b) {f : FuncId} {args : Array Value} {v : Value}
    (hc : ∀ g, Wr w b g L → Calls Try.prog f args w fun e w' => e = .returned v ∧ ∃ g1, Wr w' b g1 L1 ∧ Wrote w b g g1 w') : Calls Try.prog f args w fun e w' => e = .returned v ∧ Ws A b L1 w' ∧ Blk w' b2 t cs := by
  obtain ⟨g, hW, hg, hA, hs⟩ := h
  have hne := wr_apart hW h2 ht
  refine (hc g hW).mono ?_
  rintro e w' ⟨rfl, g', hW', hK⟩
  exact ⟨rfl, ⟨g', hW', hK.own_from hs hg, hK.below hA hs (Nat.le_refl _) hg, Nat.le_trans hs hK.size⟩, (hK.block b2 h2.lt hb (fun e => hne e.symm)).trans h2⟩
theorem Z5o {A w : World} {b b2 : Nat} {L : List UInt8} {t : TypeId} {cs : Array Value} (h : Ws A b L w) (h2 : Blk w b2 t cs) (ht : t ≠ 5) (hb : b2 ≠ b) (n : Nat) (size : Int) (k : Nat) (hk : clampSize size = k) (hn : n < 18446744073709551616) (hlen : L.length + 8 ≤ 140737488355328) :
    Calls Try.prog 44 #[.pointer (some ⟨b, 0, none⟩), .int .u64 n, .int .i64 size] w fun e w' => e = .returned (.tuple #[]) ∧ Ws A b (L ++ le n k) w' ∧ Blk w' b2 t cs :=
  hk ▸ ws_deed h h2 ht hb (fun g hW => Z5x _ g L n size _ hn hW (by omega))

def fourS (n was is m : Nat) (j : Nat) : Nat := match j with | 0 => n | 1 => was | 2 => is | _ => m
def fourT (k n was is m : Nat) (j : Nat) : List UInt8 := match j with | 0 => [] ++ le 83 1 ++ le k 1 | 1 => [] ++ le 83 1 ++ le k 1 ++ le n 4 | 2 => [] ++ le 83 1 ++ le k 1 ++ le n 4 ++ le was 4 | 3 => [] ++ le 83 1 ++ le k 1 ++ le n 4 ++ le was 4 ++ le is 4 | _ => strH k n was is m
theorem Z7j (k n was is m j : Nat) (h : j < 4) : fourT k n was is m (j + 1) = fourT k n was is m j ++ le (fourS n was is m j) 4 := by
  rcases (show j = 0 ∨ j = 1 ∨ j = 2 ∨ j = 3 by omega) with rfl | rfl | rfl | rfl <;> rfl
theorem Z5i (k n was is m j : Nat) (h : j ≤ 4) : (fourT k n was is m j).length ≤ 18 := by
  rcases (show j = 0 ∨ j = 1 ∨ j = 2 ∨ j = 3 ∨ j = 4 by omega) with rfl | rfl | rfl | rfl | rfl <;> simp [fourT, strH, Z01]
theorem Z7k {W : World} {Y n was is m : Nat} (h : Blk W Y 71 #[.int .u64 n, .int .u64 was, .int .u64 is, .int .u64 m]) (j : Nat) (hj : j < 4) : W.cell? ⟨Y, j, none⟩ = some (.int .u64 (fourS n was is m j)) := by
  rcases (show j = 0 ∨ j = 1 ∨ j = 2 ∨ j = 3 by omega) with rfl | rfl | rfl | rfl
  · exact h.cell 0
  · exact h.cell 1
  · exact h.cell 2
  · exact h.cell 3
theorem u64w (v : Nat) (h : v < 18446744073709551616) : IntKind.u64.wrap (v : Int) = (v : Int) := by simp [IntKind.wrap, IntKind.bits, IntKind.signed]; omega

set_option maxRecDepth 100000 in
set_option maxHeartbeats 4000000 in
theorem Z4r (k n was is : Nat) (A : Option Addr) (len cap : Nat) (L : List (Nat × ByteArray)) (w : World) (hlen : L.length = len) (hk : k < 256) (hn : n < 4294967296) (hwas : was < 4294967296) (his : is < 4294967296) (hl : len ≤ 100000) (hrow : Row w A 2 xC L) (hx : ∀ x ∈ L, x.1 < 4294967296 ∧ x.2.size < 4294967296) (hs : (extsL L).length ≤ 1000000) :
    Calls Try.prog 21 #[streamV k n was is, .slice A len cap] w fun e w' => e = .returned (.string ⟨(sealL (strL k n was is L)).toArray⟩) ∧ Ext w w' := by
  have hE := Ext.alloc w (.cells #[.int .i64 k, .int .i64 n, .int .u32 was, .int .u32 is] 33)
  have hX : Blk (w.alloc (.cells #[.int .i64 k, .int .i64 n, .int .u32 was, .int .u32 is] 33)) w.heap.size 33 #[.int .i64 k, .int .i64 n, .int .u32 was, .int .u32 is] := Blk.new _ _ _
  have hrow1 := hrow.extx hE
  have hsx := hX.lt
  have W0 : Ws (w.alloc (.cells #[.int .i64 k, .int .i64 n, .int .u32 was, .int .u32 is] 33)) (w.alloc (.cells #[.int .i64 k, .int .i64 n, .int .u32 was, .int .u32 is] 33)).heap.size [] ((w.alloc (.cells #[.int .i64 k, .int .i64 n, .int .u32 was, .int .u32 is] 33)).alloc (.cells #[.pointer none, .slice none 0 0] 113)) := Ws.new_ rfl
  have uk := u64w k (by omega)
  have un := u64w n (by omega)
  have uw := u64w was (by omega)
  have ui := u64w is (by omega)
  have um := u64w len (by omega)
  go_enter Try.func21, Try.ntmps21
  go_upto_region 2 with fail
  generalize hw1 : w.alloc (.cells #[.int .i64 k, .int .i64 n, .int .u32 was, .int .u32 is] 33) = w1 at W0 hX hE hrow1 hsx ⊢
  have hz1 : w1.heap.size = w.heap.size + 1 := by rw [← hw1]; simp
  clear hw1 hrow
  have e1 : w.heap.size + 1 = w1.heap.size := hz1.symm
  try rw [e1]
  clear e1 hz1
  go_wp2_with fail
  refine (ws_put W0 83 1 1 (by decide) (by decide) (by simp)).mono ?_
  rintro e w2 ⟨rfl, W1⟩
  clear W0
  have k0 := (W1.blk hX hsx).cell 0
  go_wp2_with fail
  refine (ws_put W1 k 1 1 (by decide) (by omega) (by simp [Z01])).mono ?_
  rintro e w3 ⟨rfl, W2⟩
  clear W1 k0
  have k1 := (W2.blk hX hsx).cell 1
  have k2 := (W2.blk hX hsx).cell 2
  have k3 := (W2.blk hX hsx).cell 3
  have hsb := W2.size
  go_upto_region 5 with fail
  have W3 : Ws w1 w1.heap.size (fourT k n was is len 0) (w3.alloc (.cells #[.int .u64 n, .int .u64 was, .int .u64 is, .int .u64 len] 71)) := W2.alloc _
  have hY : Blk (w3.alloc (.cells #[.int .u64 n, .int .u64 was, .int .u64 is, .int .u64 len] 71)) w3.heap.size 71 #[.int .u64 n, .int .u64 was, .int .u64 is, .int .u64 len] := Blk.new _ _ _
  clear W2 k1 k2 k3 uk un uw ui um
  go_loopw [7, 29] (fun _ i wr => ∃ j : Nat, j ≤ 4 ∧ i = .int .i64 j ∧ Ws w1 w1.heap.size (fourT k n was is len j) wr ∧ Blk wr w3.heap.size 71 #[.int .u64 n, .int .u64 was, .int .u64 is, .int .u64 len]) (fun _ i _ => 4 - (intOf i).toNat)
  case atStart => exact ⟨0, by omega, rfl, W3, hY⟩
  case round =>
    clear W3 hY
    obtain ⟨j, hj, rfl, hW, hY⟩ := hrel
    by_cases hlt : j < 4
    · have q0 := Z7k hY j hlt
      have hnn : fourS n was is len j < 18446744073709551616 := by
        rcases (show j = 0 ∨ j = 1 ∨ j = 2 ∨ j = 3 by omega) with rfl | rfl | rfl | rfl <;> simp [fourS] <;> omega
      have hd := Z5o hW hY (by decide) (by omega) (fourS n was is len j) 4 4 (by decide) hnn (by have := Z5i k n was is len j hj; omega)
      rw [← Z7j k n was is len j hlt] at hd
      have HD := Lib.hid hd
      generalize fourS n was is len j = v at q0 hnn HD
      clear hd hW hY
      go_wp2_with fail
      refine HD.out.mono ?_
      rintro e w4 ⟨rfl, hW, hY⟩
      clear q0
      go_wp2_with fail
      go_roundw
      case rel => exact ⟨j + 1, by omega, by go_num, hW, hY⟩
      case measure => simp [intOf]; omega
    · obtain rfl : j = 4 := by omega
      rw [show ((4 : Nat) : Int) = 4 from rfl]
      have hW : Ws w1 w1.heap.size (strH k n was is len ++ extsL (L.take 0)) wr := by
        have : fourT k n was is len 4 = strH k n was is len ++ extsL (L.take 0) := by simp [fourT, extsL]
        rw [← this]; exact hW
      clear hY
      go_upto_region 10 with fail
      go_loopw [9, 38] (fun _ i wr => ∃ j : Nat, j ≤ len ∧ i = .int .i64 j ∧ Ws w1 w1.heap.size (strH k n was is len ++ extsL (L.take j)) wr) (fun _ i _ => len - (intOf i).toNat)
      case atStart => exact ⟨0, by omega, rfl, hW⟩
      case round =>
        clear hW
        obtain ⟨j, hj, rfl, hW⟩ := hrel
        by_cases hlt : j < len
        · have hjx : j < L.length := by omega
          obtain ⟨b0, o0, rfl, hl0⟩ := hrow1.x_in hW.below_ hjx
          obtain ⟨q0, q1⟩ := hrow1.x_at hW.below_ hjx
          have hxj := hx _ (List.getElem_mem hjx)
          have e : L[j] = (atX L j, datX L j) := by simp [atX, datX, List.getD, hjx]
          rw [e] at hxj
          simp only at hxj
          have hLl : (strH k n was is len ++ extsL (L.take j)).length ≤ 1000018 := by
            rw [List.length_append, Z1w]; have := Z1h L j; omega
          have hLt := Z41 L j hjx
          have hL2 : strH k n was is len ++ extsL (L.take j) ++ le (atX L j) 4 ++ le ((datX L j).size / 16) 4 ++ (datX L j).data.toList = strH k n was is len ++ extsL (L.take (j + 1)) := by rw [hLt]; simp
          have HL2 := Lib.hid hL2
          clear hLt hL2 e
          generalize strH k n was is len ++ extsL (L.take j) = B at hW hLl HL2
          generalize atX L j = K at q0 hxj HL2
          generalize datX L j = D at q1 hxj HL2
          obtain ⟨Z, hZ⟩ : ∃ Z, D.size / 16 = Z := ⟨_, rfl⟩
          rw [hZ] at HL2
          have hzi : (D.size : Int) / 16 = (Z : Int) := by omega
          have uK := u64w K (by omega)
          have uZ := u64w Z (by omega)
          have hP : Blk (wr.alloc (.cells #[.int .i64 K, .string D] 107)) wr.heap.size 107 #[.int .i64 K, .string D] := Blk.new _ _ _
          have hne : wr.heap.size ≠ w1.heap.size := by have := hW.size; omega
          have C1 := Z5o (hW.alloc (.cells #[.int .i64 K, .string D] 107)) hP (by decide) hne K 4 4 (by decide) (by omega) (by omega)
          clear hW hP hZ
          go_wp2_with fail
          refine C1.mono ?_
          rintro e w4 ⟨rfl, hW, hP⟩
          clear q0 q1 C1
          have q1 := hP.cell 1
          have C2 := Z5o hW hP (by decide) hne Z 4 4 (by decide) (by omega) (by simp [Z01]; omega)
          go_wp2_with fail
          refine C2.mono ?_
          rintro e w5 ⟨rfl, hW, hP⟩
          clear q1 C2
          have q1 := hP.cell 1
          have C3 := ws_text hW D (by simp [Z01]; omega)
          rw [HL2.out] at C3
          go_wp2_with fail
          refine C3.mono ?_
          rintro e w6 ⟨rfl, hW⟩
          clear q1 C3 hP
          go_wp2_with fail
          go_roundw
          case rel => exact ⟨j + 1, by omega, by go_num, hW⟩
          case measure => simp [intOf]; omega
        · obtain rfl : j = len := by omega
          have hLe : strH k n was is j ++ extsL (L.take j) = strL k n was is L := by rw [List.take_of_length_le (by omega)]; unfold strL; rw [hlen]
          have hll : (strL k n was is L).length ≤ 1000018 := by unfold strL; rw [List.length_append, Z1w]; omega
          have hl0 : strL k n was is L ≠ [] := by
            intro h
            have := congrArg List.length h
            unfold strL at this
            rw [List.length_append, Z1w] at this
            simp at this
          rw [hLe] at hW
          obtain ⟨Q, hQ⟩ : ∃ Q, strL k n was is L = Q := ⟨_, rfl⟩
          rw [hQ] at hW hll hl0
          have HQ := Lib.hid hQ
          have C1 := Z7v hW hl0
          clear hW hLe hQ hl0
          go_wp2_with fail
          refine C1.mono ?_
          rintro e w4 ⟨rfl, hW⟩
          have hEx := hE.trans hW.below_
          clear C1 hW
          go_wp2_with fail
          refine (Z6q ⟨Q.toArray⟩ _ (by show Q.toArray.size ≤ _; rw [List.size_toArray]; omega)).mono ?_
          rintro e w5 ⟨rfl, hb5⟩
          go_wp2_with fail
          go_ret
          exact ⟨by rw [HQ.out]; rfl, hEx.trans hb5⟩

theorem Z72 {L : List (Nat × ByteArray)} {n : Nat} : L.any (farX n) = false ↔ fitsX L n := by
  rw [List.any_eq_false]
  unfold fitsX farX
  constructor
  · intro h i hi
    have := h _ (List.getElem_mem hi)
    simp only [Bool.or_eq_true, decide_eq_true_eq, not_or] at this
    simp only [atX, datX, List.getD, hi, List.getElem?_eq_getElem, Option.getD_some]
    omega
  · intro h x hx
    obtain ⟨i, hi, rfl⟩ := List.getElem_of_mem hx
    have := h i hi
    simp only [atX, datX, List.getD, hi, List.getElem?_eq_getElem, Option.getD_some] at this
    simp only [Bool.or_eq_true, decide_eq_true_eq, not_or]
    omega
theorem Z62 {L : List (Nat × ByteArray)} {n : Nat} (hg : goodX L = true) (hf : fitsX L n) : ∀ x ∈ L, x.1 + x.2.size / 16 ≤ n ∧ x.2.size % 16 = 0 ∧ 0 < x.2.size := by
  intro e he
  obtain ⟨i, hi, rfl⟩ := List.getElem_of_mem he
  have h1 := hf i hi
  have h2 := (by unfold goodX at hg; simpa using hg : ∀ i, i < L.length → okX L i) i hi
  unfold okX at h2
  simp only [atX, datX, List.getD, hi, List.getElem?_eq_getElem, Option.getD_some] at h1 h2
  omega
theorem Z55 (l : List UInt8) (w : World) (hl : l.length ≤ 1000000000) : Calls Try.prog 18 #[.string (sB l)] w fun e w' => e = .returned (.int .u32 (crcSum l)) ∧ Ext w w' := by
  refine (Z2d (sB l) w (by rw [Z00]; omega)).mono ?_
  rintro e w' ⟨rfl, h⟩
  exact ⟨rfl, h⟩
theorem Z4h (n : Nat) (w : World) (hn : n ≤ 100000) : Calls Try.prog 19 #[.int .i64 n] w fun e w' => e = .returned (.string (sB (zrs (16 * n)))) ∧ Ext w w' :=
  Z1l n hn _ (by unfold txt; rw [Z4t]; rfl) w
theorem Z57 (l : List UInt8) (n : Nat) (B : Option Addr) (c : Nat) (L : List (Nat × ByteArray)) (w0 : World) (hs : l.length = 16 * n) (hn : n ≤ 1000000) (hm : L.length ≤ 1000000) (hrow : Row w0 B 2 xC L) (hx : ∀ x ∈ L, x.1 ≤ 1099511627776 ∧ x.2.size ≤ 1099511627776) (hg : goodX L = true) (hf : fitsX L n) :
    Calls Try.prog 28 #[.string (sB l), .slice B L.length c] w0 fun e w' => e = .returned (.tuple #[.string (sB (applyL l L)), .int .i64 0]) ∧ Ext w0 w' :=
  Z42 (sB l) n B L.length c L w0 (by rw [Z00]; exact hs) hn rfl hm hrow hx hg (Z62 hg hf)
set_option maxRecDepth 10000 in
theorem pgoodE (k n was is : Nat) (B : Option Addr) (c : Nat) (L : List (Nat × ByteArray)) (w0 : World) (hrow : Row w0 B 2 xC L) (hl : L.length ≤ 1000000) (hx : ∀ x ∈ L, x.1 ≤ 1099511627776 ∧ x.2.size ≤ 1099511627776) (hn : n ≤ 4096) :
    Calls Try.prog 54 #[streamV k n was is, .slice B L.length c] w0 fun e w' => e = .returned (.bool (goodS k n was is L)) ∧ Ext w0 w' := by
  have yes : GoodS k n was is L → goodS k n was is L = true := fun h => by simp [goodS, h]
  have no : ¬ GoodS k n was is L → goodS k n was is L = false := fun h => by simp [goodS, h]
  unfold GoodS at yes no
  refine fnG (OwnT.start w0) 35 Try.func54 rfl rfl rfl fun a h => ?_
  refine gX h [] rfl fun a w h => ?_
  refine gW h rfl fun g a w E h => ?_
  refine gX h [0] rfl fun a w h => ?_
  refine gE h rfl (Z4h n w (by omega)) fun a w E h => ?_
  refine gX h [] rfl fun a w h => ?_
  have hz : (zrs (16 * n)).length = 16 * n := by simp
  cases hg : goodX L with
  | false =>
    refine gE h rfl (Z7s (sB (zrs (16 * n))) n B c L w (by rw [Z00]; exact hz) (by omega) hl (hrow.extx h.O.below) hx hg) fun a w E h => ?_
    refine gX h [.t] rfl fun a w h => ?_
    exact gR h rfl ⟨by rw [no (by simp [hg])], h.O.below⟩
  | true =>
  cases hf : L.any (farX n) with
  | true =>
    refine gE h rfl (Z7r (sB (zrs (16 * n))) n B c L w (by rw [Z00]; exact hz) (by omega) hl (hrow.extx h.O.below) hx hg hf) fun a w E h => ?_
    refine gX h [.t] rfl fun a w h => ?_
    exact gR h rfl ⟨by rw [no (fun q => by rw [Z72.2 q.2.2.2.1] at hf; cases hf)], h.O.below⟩
  | false =>
  have hfit := Z72.1 hf
  have hal : (applyL (zrs (16 * n)) L).length = 16 * n := by rw [Z1b _ _ (by simpa using Z4m hg hfit)]; simp
  refine gE h rfl (Z57 (zrs (16 * n)) n B c L w hz (by omega) hl (hrow.extx h.O.below) hx hg hfit) fun a w E h => ?_
  have C3 : ∀ w, OwnT w0.heap.size w0 [tBlk g 33 ⟨[.int .i64 k, .int .i64 n, .int .u32 was, .int .u32 is]⟩] w → Calls Try.prog 18 ⟨[.string (sB (applyL (zrs (16 * n)) L))]⟩ w fun e w' => e = .returned (.int .u32 (crcSum (applyL (zrs (16 * n)) L))) ∧ Ext w w' := fun w O => Z55 _ w (by omega)
  generalize applyL (zrs (16 * n)) L = AP at C3 h yes no
  by_cases h1 : k = 1
  · refine gX h [.f, 0, .t, .k [99]] rfl fun a w h => ?_
    by_cases h2 : was = 0
    rotate_left
    · refine gDp Z10 Z07 h 10 [0, .f] rfl (by (try simp only [AllP, inK, and_true, true_and]) <;> (repeat' apply And.intro) <;> first | exact trivial | rfl | assumption | omega | (simp; done) | (simp; omega)) rfl (by kernel_rfl) (by kernel_rfl) fun a w E h => ?_
      refine gX h [] rfl fun a w h => ?_
      exact gR h rfl ⟨by rw [no (by omega)], h.O.below⟩
    by_cases h3 : crcSum AP = is
    · refine gDp Z10 Z07 h 10 [0, .t, .v (.int .u32 (crcSum AP)), 0, .t] rfl (by (try simp only [AllP, inK, and_true, true_and]) <;> (repeat' apply And.intro) <;> first | exact trivial | rfl | assumption | exact C3 | omega | (simp; done) | (simp; omega)) rfl (by kernel_rfl) (by kernel_rfl) fun a w E h => ?_
      refine gX h [] rfl fun a w h => ?_
      exact gR h rfl ⟨by rw [yes ⟨.inl h1, hn, hg, hfit, .inr ⟨h2, h3⟩⟩], h.O.below⟩
    · refine gDp Z10 Z07 h 10 [0, .t, .v (.int .u32 (crcSum AP)), 0, .f] rfl (by (try simp only [AllP, inK, and_true, true_and]) <;> (repeat' apply And.intro) <;> first | exact trivial | rfl | assumption | exact C3 | omega | (simp; done) | (simp; omega)) rfl (by kernel_rfl) (by kernel_rfl) fun a w E h => ?_
      refine gX h [] rfl fun a w h => ?_
      exact gR h rfl ⟨by rw [no (by omega)], h.O.below⟩
  by_cases h2 : k = 2
  · refine gX h [.f, 0, .f, 0, .t] rfl fun a w h => ?_
    exact gR h rfl ⟨by rw [yes ⟨.inr h2, hn, hg, hfit, .inl h2⟩], h.O.below⟩
  · refine gX h [.f, 0, .f, 0, .f] rfl fun a w h => ?_
    exact gR h rfl ⟨by rw [no (by omega)], h.O.below⟩

/-- What a volume is behind a stream that can be. -/
def takeS (k n was is : Nat) (L : List (Nat × ByteArray)) (l : List UInt8) : List UInt8 × Bool :=
  if k = 1 then (applyL (zrs (16 * n)) L, true) else if l.length = 16 * n ∧ crcSum l = was then (applyL l L, decide (crcSum (applyL l L) = is)) else ([], false)
set_option maxRecDepth 10000 in
theorem rtake31E {v : Value} (k n was is : Nat) (L : List (Nat × ByteArray)) (l : List UInt8) (w0 : World) (hr : (tXs v L).holds w0) (hl : L.length ≤ 1000000) (hk : k < 256) (hn : n ≤ 4096) (hll : l.length ≤ 1000000) (hg : goodX L = true) (hf : fitsX L n) :
    Calls Try.prog 12 #[.string (sB l), stA k n was is v] w0 fun e w' => e = .returned (.tuple #[.string (sB (takeS k n was is L l).1), .bool (takeS k n was is L l).2]) ∧ Ext w0 w' := by
  have hin := Z4m hg hf
  have hal : ∀ s : List UInt8, s.length = 16 * n → (applyL s L).length = 16 * n := fun s hs => by rw [Z1b _ _ (by rw [hs]; exact hin), hs]
  have C2 : ∀ (s : List UInt8), s.length = 16 * n → ∀ g w, OwnT w0.heap.size w0 [tBlk g 30 ⟨[.int .i64 k, .int .i64 n, .int .u32 was, .int .u32 is, v]⟩] w → Calls Try.prog 32 ⟨[.string (sB s), v]⟩ w fun e w' => e = .returned (.string (sB (applyL s L))) ∧ Ext w w' := fun s hs g w O => rapplyE L s w (Z2o hr O.below) hl (by omega) (by rw [hs]; exact hin)
  have C3 : ∀ (s : List UInt8), s.length ≤ 1000000 → ∀ g w, OwnT w0.heap.size w0 [tBlk g 30 ⟨[.int .i64 k, .int .i64 n, .int .u32 was, .int .u32 is, v]⟩] w → Calls Try.prog 24 ⟨[.string (sB s)]⟩ w fun e w' => e = .returned (.int .u32 (crcSum s)) ∧ Ext w w' := fun s hs g w O => Z6s _ w (by omega)
  refine fnG (OwnT.start w0) 40 Try.func12 rfl rfl rfl fun a h => ?_
  refine gX h [] rfl fun a w1 h => ?_
  refine gW h rfl fun g a w1 E h => ?_
  replace C2 := fun s hs => C2 s hs g
  replace C3 := fun s hs => C3 s hs g
  unfold takeS
  by_cases h1 : k = 1
  · rw [if_pos h1]
    refine gX h [0, .t, .k [99]] rfl fun a w2 h => ?_
    have C1 : ∀ w, OwnT w0.heap.size w0 [tBlk g 30 ⟨[.int .i64 k, .int .i64 n, .int .u32 was, .int .u32 is, v]⟩] w → Calls Try.prog 26 ⟨[.int .i64 (16 * n : Nat)]⟩ w fun e w' => e = .returned (.string (sB (zrs (16 * n)))) ∧ Ext w w' := fun w O => rzerosE (16 * n) w (by omega)
    have C4 := C2 (zrs (16 * n)) (by simp)
    generalize applyL (zrs (16 * n)) L = AP at C4 ⊢
    refine gDp Z10 Z07 h 7 [0, vi n, vi (16 * n : Nat), .v (.string (sB (zrs (16 * n)))), 0, .v v, .v (.string (sB AP))] rfl (by (try simp only [AllP, inK, and_true, true_and]) <;> (repeat' apply And.intro) <;> first | exact trivial | rfl | assumption | exact C1 | exact C4 | omega | (simp; done) | (simp; omega)) rfl (by kernel_rfl) (by kernel_rfl) fun a w7 E7 h => ?_
    refine gX h [] rfl fun a w8 h => ?_
    exact gR h rfl ⟨rfl, h.O.below⟩
  · rw [if_neg h1]
    refine gX h [0, .f, .k [99]] rfl fun a w2 h => ?_
    by_cases h2 : l.length = 16 * n
    rotate_left
    · rw [if_neg fun h => h2 h.1]
      refine gDp Z10 Z07 h 13 [vi l.length, 0, vi n, vi (16 * n : Nat), .t] rfl (by (try simp only [AllP, inK, and_true, true_and]) <;> (repeat' apply And.intro) <;> first | exact trivial | rfl | assumption | omega | (simp; done) | (simp; omega)) rfl (by kernel_rfl) (by kernel_rfl) fun a w7 E7 h => ?_
      refine gX h [] rfl fun a w8 h => ?_
      exact gR h rfl ⟨rfl, h.O.below⟩
    have C5 := C3 l hll
    generalize crcSum l = cl at C5 ⊢
    by_cases h3 : cl = was
    rotate_left
    · rw [if_neg fun h => h3 h.2]
      refine gDp Z10 Z07 h 13 [vi l.length, 0, vi n, vi (16 * n : Nat), .f, .v (.int .u32 cl), 0, .t] rfl (by (try simp only [AllP, inK, and_true, true_and]) <;> (repeat' apply And.intro) <;> first | exact trivial | rfl | assumption | exact C5 | omega | (simp; done) | (simp; omega)) rfl (by kernel_rfl) (by kernel_rfl) fun a w7 E7 h => ?_
      refine gX h [] rfl fun a w8 h => ?_
      exact gR h rfl ⟨rfl, h.O.below⟩
    rw [if_pos ⟨h2, h3⟩]
    refine gDp Z10 Z07 h 13 [vi l.length, 0, vi n, vi (16 * n : Nat), .f, .v (.int .u32 cl), 0, .f] rfl (by (try simp only [AllP, inK, and_true, true_and]) <;> (repeat' apply And.intro) <;> first | exact trivial | rfl | assumption | exact C5 | omega | (simp; done) | (simp; omega)) rfl (by kernel_rfl) (by kernel_rfl) fun a w7 E7 h => ?_
    have hal2 := hal l h2
    have C4 := C2 l h2
    have C6 := C3 (applyL l L) (by omega)
    generalize applyL l L = AP at C4 C6 hal2 ⊢
    refine gX h [0, .v v] rfl fun a w8 h => ?_
    refine gE h rfl (C4 _ h.O) fun a w9 E9 h => ?_
    refine gX h [.k [0], 0] rfl fun a w10 h => ?_
    refine gE h rfl (C6 _ h.O) fun a w11 E h => ?_
    generalize crcSum AP = ca at h ⊢
    by_cases h4 : ca = is
    · refine gX h [.t] rfl fun a w8 h => ?_
      exact gR h rfl ⟨by rw [decide_eq_true h4], h.O.below⟩
    · refine gX h [.f] rfl fun a w8 h => ?_
      exact gR h rfl ⟨by rw [decide_eq_false h4], h.O.below⟩

theorem OwnT.drop12 {H : Nat} {A w : World} {X Y Z : Thing} {R : List Thing} (h : OwnT H A (X :: Y :: Z :: R) w) : OwnT H A (X :: R) w := h.sub (.cons_cons _ (.cons _ (.cons _ (List.Sublist.refl _))))
set_option maxRecDepth 10000 in
theorem rof31E {H : Nat} {A : World} {R : List Thing} (a b : ByteArray) (n : Nat) (full : Bool) (w : World) (O : OwnT H A R w) (ha : full = false → a.size = 16 * n) (hb : b.size = 16 * n) (hn : n ≤ 10000) :
    Calls Try.prog 8 #[.string a, .string b, .bool full] w fun e w' => ∃ v, e = .returned (stA (if full = true then 1 else 2) n (if full = true then 0 else crcSum a.data.toList) (crcSum b.data.toList) v) ∧ OwnT H A (tXs v (ofTo (if full = true then sB (zrs (16 * n)) else a) b n) :: R) w' := by
  have lb : b.data.toList.length = 16 * n := by simpa using hb
  refine fnG O 30 Try.func8 rfl rfl rfl fun ac h => ?_
  refine gX h [] rfl fun ac w h => ?_
  refine gW h rfl fun g6 ac w E h => ?_
  refine gX h [vi (16 * n : Nat), vi n] rfl fun ac w h => ?_
  refine gE h rfl (Z6s b.data.toList w (by omega)) fun ac w E h => ?_
  refine gX h [] rfl fun ac w h => ?_
  refine gW h rfl fun g7 ac w E h => ?_
  cases full with
  | true =>
    refine gX h [0, 0, vi (16 * n : Nat)] rfl fun ac w h => ?_
    refine gE h rfl (rzerosE (16 * n) w (by omega)) fun ac w E h => ?_
    refine gX h [] rfl fun ac w h => ?_
    refine gC h rfl (rofE (sB (zrs (16 * n))) b n w h.O (by rw [Z00]; simp) hb (by omega)) ?_
    rintro e w ⟨v, rfl, O2⟩
    obtain ⟨B, c, rfl⟩ := Z05 O2.r0
    refine ⟨_, rfl, _, O2, trivial, fun ac h => ?_⟩
    refine gX h [1, 1, 2] rfl fun ac w h => ?_
    exact rtG Z07 h [2] rfl ⟨rfl, trivial⟩ ⟨_, rfl, h.O.drop12⟩
  | false =>
    have ha := ha rfl
    have la : a.data.toList.length = 16 * n := by simpa using ha
    refine gX h [0] rfl fun ac w h => ?_
    refine gE h rfl (Z6s a.data.toList w (by omega)) fun ac w E h => ?_
    refine gX h [0] rfl fun ac w h => ?_
    refine gC h rfl (rofE a b n w h.O ha hb (by omega)) ?_
    rintro e w ⟨v, rfl, O2⟩
    obtain ⟨B, c, rfl⟩ := Z05 O2.r0
    refine ⟨_, rfl, _, O2, trivial, fun ac h => ?_⟩
    refine gX h [1, 1, 2] rfl fun ac w h => ?_
    exact rtG Z07 h [2] rfl ⟨rfl, trivial⟩ ⟨_, rfl, h.O.drop12⟩

/-- A reader's cells: what is left, and whether there were too few bytes. -/
def rdr (s : ByteArray) (short : Bool) : Array Value := #[.string s, .bool short]

theorem of_any (s : ByteArray) (w : World) : Calls Try.prog 50 #[.string s] w fun e w' => e = .returned (.pointer (some ⟨w.heap.size, 0, none⟩)) ∧ Upd w w.heap.size 149 (rdr s false) w' := by
  go_enter Try.func50, Try.ntmps50
  go_wp2
  go_ret
  exact ⟨rfl, Blk.new _ _ _, Z3y (World.grownBy.refl w _) _⟩

/-- The next bytes: with enough of them. -/
theorem Z49 (g : Nat) (s : ByteArray) (short : Bool) (n : Nat) (w : World) (h : Blk w g 149 (rdr s short)) (hn : n ≤ s.size) (hs : s.size ≤ 9223372036854775807) :
    Calls Try.prog 75 #[.pointer (some ⟨g, 0, none⟩), .int .i64 n] w fun e w' => e = .returned (.string (s.extract 0 n)) ∧ Upd w g 149 (rdr (s.extract n s.size) short) w' := by
  have c0 : w.cell? ⟨g, 0, none⟩ = some (.string s) := h.cell 0
  have c1 : w.cell? ⟨g, 1, none⟩ = some (.bool short) := h.cell 1
  have f0 : w.frozen? ⟨g, 0, none⟩ = false := h.frozen 0
  have f1 : w.frozen? ⟨g, 1, none⟩ = false := h.frozen 1
  have H := Lib.hid h
  clear h
  go_enter Try.func75, Try.ntmps75
  go_wp2
  go_ret
  exact ⟨rfl, (Upd.refl H.out).set 0 _⟩
theorem Z3r (g : Nat) (s : ByteArray) (short : Bool) (n : Nat) (w : World) (h : Blk w g 149 (rdr s short)) (hn : s.size < n) (hn2 : n ≤ 9223372036854775807) :
    Calls Try.prog 75 #[.pointer (some ⟨g, 0, none⟩), .int .i64 n] w fun e w' => e = .returned (.string ⟨#[]⟩) ∧ Upd w g 149 (rdr ⟨#[]⟩ true) w' := by
  have c0 : w.cell? ⟨g, 0, none⟩ = some (.string s) := h.cell 0
  have c1 : w.cell? ⟨g, 1, none⟩ = some (.bool short) := h.cell 1
  have f0 : w.frozen? ⟨g, 0, none⟩ = false := h.frozen 0
  have f1 : w.frozen? ⟨g, 1, none⟩ = false := h.frozen 1
  have H := Lib.hid h
  clear h
  go_enter Try.func75, Try.ntmps75
  go_wp2
  go_ret
  exact ⟨rfl, ((Upd.refl H.out).set 0 _).set 1 _⟩
theorem end_yes (g : Nat) (s : ByteArray) (w : World) (h : Blk w g 149 (rdr s false)) (h0 : s.size = 0) :
    Calls Try.prog 53 #[.pointer (some ⟨g, 0, none⟩)] w fun e w' => e = .returned (.int .i64 0) ∧ w = w' := by
  have c0 : w.cell? ⟨g, 0, none⟩ = some (.string s) := h.cell 0
  have c1 : w.cell? ⟨g, 1, none⟩ = some (.bool false) := h.cell 1
  clear h
  have hz : s.toList.isEmpty = true := by rw [ByteArray.toList_eq]; simp; exact Array.eq_empty_of_size_eq_zero h0
  go_enter Try.func53, Try.ntmps53
  go_wp2
  go_ret
  exact ⟨rfl, rfl⟩
/-- A number of bytes, the lowest first. -/
def numL : List UInt8 → Nat
  | [] => 0
  | b :: l => b.toNat + 256 * numL l
theorem Z3f (l : List UInt8) : numL l < 256 ^ l.length := by
  induction l with
  | nil => simp [numL]
  | cons b l ih =>
    have := b.toNat_lt
    simp only [numL, List.length_cons, Nat.pow_succ]
    have : 256 ^ l.length * 256 = 256 * 256 ^ l.length := Nat.mul_comm _ _
    omega
theorem Z5b (l : List UInt8) (b : UInt8) : numL (l ++ [b]) = numL l + b.toNat * 256 ^ l.length := by
  induction l with
  | nil => simp [numL]
  | cons a l ih =>
    simp only [List.cons_append, numL, ih, List.length_cons, Nat.pow_succ, Nat.mul_add]
    have : 256 * (b.toNat * 256 ^ l.length) = b.toNat * (256 ^ l.length * 256) := by rw [Nat.mul_comm 256, Nat.mul_assoc]
    omega
theorem numL_le (n k : Nat) (h : n < 256 ^ k) : numL (le n k) = n := by
  induction k generalizing n with
  | zero => simp at h; subst h; rfl
  | succ k ih =>
    have h1 : le n (k + 1) = le n k ++ [UInt8.ofNat (n / 256 ^ k)] := rfl
    have h2 : le n k = le (n % 256 ^ k) k := by
      apply List.ext_getElem?
      intro i
      by_cases hi : i < k
      · rw [le_get _ _ _ hi, le_get _ _ _ hi]
        congr 1
        apply UInt8.toNat.inj
        rw [UInt8.toNat_ofNat', UInt8.toNat_ofNat']
        have e : 256 ^ k = 256 ^ i * (256 * 256 ^ (k - i - 1)) := by
          rw [← Nat.mul_assoc, ← Nat.pow_succ, ← Nat.pow_add]
          congr 1
          omega
        have : n % 256 ^ k / 256 ^ i = n / 256 ^ i % (256 * 256 ^ (k - i - 1)) := by
          rw [e, Nat.mod_mul_right_div_self]
        rw [this]
        simp only [Nat.reducePow]
        rw [Nat.mod_mul_right_mod]
      · rw [List.getElem?_eq_none (by rw [Z01]; omega), List.getElem?_eq_none (by rw [Z01]; omega)]
    rw [h1, Z5b, h2, ih _ (Nat.mod_lt _ (Nat.pow_pos (by decide))), Z01, UInt8.toNat_ofNat']
    have h3 : n / 256 ^ k < 256 := by
      rw [Nat.div_lt_iff_lt_mul (Nat.pow_pos (by decide)), Nat.mul_comm, ← Nat.pow_succ]
      exact h
    simp only [Nat.reducePow]
    rw [Nat.mod_eq_of_lt h3, Nat.mul_comm]
    exact Nat.mod_add_div _ _
theorem numL_take (l : List UInt8) (k : Nat) (h : k < l.length) : numL (l.take (k + 1)) = numL (l.take k) + (l.getD k 0).toNat * 256 ^ k := by
  rw [List.take_succ_eq_append_getElem h, Z5b, List.length_take, Nat.min_eq_left (by omega)]
  simp [List.getD, List.getElem?_eq_getElem h]

/-- A place's byte put over the number of those below it. -/
theorem or_place (X b j : Nat) (hX : X < 256 ^ j) (hb : b < 256) (hj : j < 8) :
    bits .or .u64 (X : Int) (IntKind.u64.wrap (IntKind.u64.wrap (b : Int) * 2 ^ (8 * j))) = ((X + b * 256 ^ j : Nat) : Int) := by
  have hwb : IntKind.u64.wrap (b : Int) = b := by simp [IntKind.wrap, IntKind.bits, IntKind.signed]; omega
  rw [hwb]
  have e : (2 : Nat) ^ (8 * j) = 256 ^ j := by rw [Nat.pow_mul]
  have hp : 256 ^ (j + 1) ≤ 256 ^ 8 := Nat.pow_le_pow_right (by decide) (by omega)
  have hp0 : 0 < 256 ^ j := Nat.pow_pos (by decide)
  have hbj : b * 256 ^ j ≤ 255 * 256 ^ j := Nat.mul_le_mul_right _ (by omega)
  have hbound : 255 * 256 ^ j + 256 ^ j = 256 ^ (j + 1) := by rw [Nat.pow_succ]; omega
  simp only [Nat.reducePow] at hp
  have hw : IntKind.u64.wrap ((b : Int) * 2 ^ (8 * j)) = ((b * 256 ^ j : Nat) : Int) := by
    have e2 : ((b : Int) * 2 ^ (8 * j)) = ((b * 256 ^ j : Nat) : Int) := by rw [← e]; simp
    rw [e2]
    generalize b * 256 ^ j = q at hbj
    simp [IntKind.wrap, IntKind.bits, IntKind.signed]
    omega
  rw [hw, u64_or_nat X (b * 256 ^ j) (by omega) (by omega)]
  congr 1
  rw [← e, Nat.or_comm, Nat.mul_comm, ← Nat.two_pow_add_eq_or_of_lt (by rw [e]; exact hX), Nat.add_comm]

/-- What a reader has left, and whether there were too few bytes, after a number of k bytes; the number. -/
def getN (st : List UInt8 × Bool) (k : Nat) : Nat × (List UInt8 × Bool) :=
  if k ≤ st.1.length then (numL (st.1.take k), (st.1.drop k, st.2)) else (0, ([], true))
theorem Z1f (st : List UInt8 × Bool) (k : Nat) : (getN st k).1 < 256 ^ k := by
  unfold getN
  split
  · rename_i h
    have := Z3f (st.1.take k)
    rwa [List.length_take, Nat.min_eq_left h] at this
  · exact Nat.pow_pos (by decide)
set_option maxHeartbeats 1000000 in
theorem take_any (g : Nat) (st : List UInt8 × Bool) (k : Nat) (w : World) (hk : k ≤ 8) (h : Blk w g 149 (rdr ⟨st.1.toArray⟩ st.2)) (hs : st.1.length ≤ 1000000) :
    ∃ (T : List UInt8) , T.length ≤ 8 ∧ numL T = (getN st k).1 ∧ Calls Try.prog 75 #[.pointer (some ⟨g, 0, none⟩), .int .i64 k] w fun e w' => e = .returned (.string ⟨T.toArray⟩) ∧ Upd w g 149 (rdr ⟨(getN st k).2.1.toArray⟩ (getN st k).2.2) w' := by
  have hsz : (⟨st.1.toArray⟩ : ByteArray).size = st.1.length := by show st.1.toArray.size = _; simp
  unfold getN
  by_cases hle : k ≤ st.1.length
  · rw [if_pos hle]
    refine ⟨st.1.take k, by simp; omega, rfl, ?_⟩
    have := Z49 g ⟨st.1.toArray⟩ st.2 k w h (by omega) (by omega)
    rw [cut_eq _ k (by omega)] at this
    have e : (⟨st.1.toArray⟩ : ByteArray).extract k (⟨st.1.toArray⟩ : ByteArray).size = ⟨(st.1.drop k).toArray⟩ := by
      apply Z1o
      rw [Lib.extract_data, hsz]
      exact List.take_of_length_le (by simp)
    rw [e] at this
    exact this
  · rw [if_neg hle]
    refine ⟨[], by simp, rfl, ?_⟩
    exact Z3r g ⟨st.1.toArray⟩ st.2 k w h (by omega) (by omega)

theorem Z7i (n : Nat) (h1 : 1 ≤ n) (h8 : n ≤ 8) : clampSize n = n := by unfold clampSize; omega

set_option maxRecDepth 10000 in
set_option maxHeartbeats 1000000 in
theorem get_any (g : Nat) (st : List UInt8 × Bool) (k : Nat) (w : World) (h1 : 1 ≤ k) (h8 : k ≤ 8) (h : Blk w g 149 (rdr ⟨st.1.toArray⟩ st.2)) (hs : st.1.length ≤ 1000000) :
    Calls Try.prog 51 #[.pointer (some ⟨g, 0, none⟩), .int .i64 k] w fun e w' => e = .returned (.int .u64 (getN st k).1) ∧ Upd w g 149 (rdr ⟨(getN st k).2.1.toArray⟩ (getN st k).2.2) w' := by
  obtain ⟨T, hT8, hTn, hT⟩ := take_any g st k w h8 h hs
  generalize (getN st k).2 = st2 at hT ⊢
  rw [← hTn]
  have hTT := Lib.hid hT
  clear hT hTn h
  go_enter Try.func51, Try.ntmps51
  go_wp2_with fail
  refine (Z4s _ _).mono ?_
  rintro e w1 ⟨rfl, rfl⟩
  rw [Z7i k h1 h8]
  go_wp2_with fail
  refine hTT.out.mono ?_
  rintro e w2 ⟨rfl, hU⟩
  have hsz : (⟨T.toArray⟩ : ByteArray).size = T.length := by show T.toArray.size = _; simp
  obtain ⟨c, hc1, hc2, hcv⟩ := Z4n ⟨T.toArray⟩ w2 (by unfold maxLen; omega)
  rw [hsz] at hc1 hcv
  have hB : Bytes (w2.alloc (.cells (rowOf T c) 5 (c, c + 1))) w2.heap.size T c := Bytes.new_
  have hCell := Lib.hid (fun i hi => hB.cell (i := i) hi)
  have hU2 : Upd w g 149 (rdr ⟨st2.1.toArray⟩ st2.2) (w2.drew.alloc (.cells (rowOf T c) 5 (c, c + 1))) := ⟨(hU.blk.drew).alloc _, Z3y (Z59 hU.grown) _⟩
  have HU := Lib.hid hU2
  clear hB hU hU2 hTT
  go_wp2_with fail
  go_loop [5, 6, 7, 14] (fun x _ _ i => ∃ (j X : Nat), j ≤ T.length ∧ i = .int .i64 j ∧ x = .int .u64 X ∧ Hid (X = numL (T.take j))) (fun _ _ _ i => T.length - (intOf i).toNat)
  case atStart => exact ⟨0, 0, by omega, rfl, rfl, by simp [Hid, numL]⟩
  case round =>
    obtain ⟨j, X, hj, rfl, rfl, HX⟩ := hrel
    clear hcv
    by_cases hlt : j < T.length
    · have hcell := hCell.out j hlt
      have hnx := numL_take T j hlt
      have hXlt := Z3f (T.take j)
      rw [List.length_take, Nat.min_eq_left (by omega), ← HX.out] at hXlt
      rw [← HX.out] at hnx
      generalize T.getD j 0 = b at hcell hnx
      have hor := or_place X b.toNat j hXlt b.toNat_lt (by omega)
      generalize hY : X + b.toNat * 256 ^ j = Y at hor hnx
      have HY := Lib.hid hnx
      clear hXlt hnx hY
      go_wp2_with fail
      go_round
      case rel => exact ⟨j + 1, Y, by omega, by go_num, rfl, by show Y = _; rw [HY.out]⟩
      case measure => simp [intOf]; omega
    · obtain rfl : j = T.length := by omega
      go_wp2_with fail
      go_ret
      exact ⟨Z0s (by rw [HX.out, List.take_length]), HU.out⟩

theorem numL_drop (l : List UInt8) (k : Nat) (h : k < l.length) : numL (l.drop k) = (l.getD k 0).toNat + 256 * numL (l.drop (k + 1)) := by
  rw [List.drop_eq_getElem_cons h, numL]
  simp [List.getD, List.getElem?_eq_getElem h]

set_option maxRecDepth 10000 in
set_option maxHeartbeats 1000000 in
theorem Z7f (s : ByteArray) (w : World) (hs : s.size ≤ 8) :
    Calls Try.prog 30 #[.string s] w fun e w' => e = .returned (.int .u64 (numL s.data.toList)) ∧ w = w' := by
  have hsl : s.data.toList.length = s.size := by simp
  go_enter Try.func30, Try.ntmps30
  go_wp2_with fail
  go_loop [3, 4] (fun x i => ∃ (k X : Nat), k ≤ s.size ∧ i = .int .i64 ((k : Int) - 1) ∧ x = .int .u64 X ∧ Hid (X = numL (s.data.toList.drop k))) (fun _ i => (intOf i + 1).toNat)
  case atStart => exact ⟨s.size, 0, by omega, rfl, rfl, by show 0 = _; rw [List.drop_of_length_le (by omega)]; rfl⟩
  case round =>
    obtain ⟨k, X, hk, rfl, rfl, HX⟩ := hrel
    by_cases hlt : 0 < k
    · obtain ⟨j, rfl⟩ : ∃ j, k = j + 1 := ⟨k - 1, by omega⟩
      have hj : j < s.size := by omega
      have hd := numL_drop s.data.toList j (by omega)
      have hl := Z3f (s.data.toList.drop (j + 1))
      have hl2 := Z3f (s.data.toList.drop j)
      rw [← HX.out] at hd hl
      rw [List.length_drop, hsl] at hl hl2
      have hp : 256 ^ (s.size - j) ≤ 256 ^ 8 := Nat.pow_le_pow_right (by decide) (by omega)
      simp only [Nat.reducePow] at hp
      rw [hd] at hl2
      have hb := Z3z s j hj
      have hx : ((j + 1 : Nat) : Int) - 1 = (j : Int) := by omega
      rw [hx]
      rw [← hb] at hd hl2
      have HD := Lib.hid hd
      have hbound : (s[j]'hj).toNat + 256 * X < 18446744073709551616 := by omega
      clear hl hl2 hd hp hb hx
      go_wp2_with fail
      go_round
      case rel => exact ⟨j, (s[j]'hj).toNat + 256 * X, by omega, by first | rfl | go_num, by first | rfl | go_num, by show _ = _; rw [HD.out]⟩
      case measure => simp [intOf]
    · obtain rfl : k = 0 := by omega
      go_wp2_with fail
      go_ret
      exact ⟨Z0s (by rw [HX.out, List.drop_zero]), rfl⟩
open Go.RowKit Go.Maps

section
variable {H : Nat} {A w w' : World} {R : List Thing} {b r : Nat} {g g' : Option Nat} {l l' : List UInt8}
theorem clamp_is (k : Nat) (h : 1 ≤ k ∧ k ≤ 8) : clampSize (k : Int) = k := by unfold clampSize; omega
theorem rseal_l (l : List UInt8) (w : World) (hl : l.length ≤ 1000000000) : Calls Try.prog 23 #[.string (sB l)] w fun e w' => e = .returned (.string (sB (sealL l))) ∧ Ext w w' := by
  refine (Z53 (sB l) _ w (by rw [Z00]; omega) rfl).mono ?_
  rintro e w' ⟨rfl, h⟩
  exact ⟨rfl, h⟩
theorem rbytes_l (n k : Nat) (w : World) (hn : n < 18446744073709551616) (hk : 1 ≤ k ∧ k ≤ 8) : Calls Try.prog 22 #[.int .u64 (n : Nat), .int .i64 (k : Nat)] w fun e w' => e = .returned (.string (sB (le n k))) ∧ Ext w w' := by
  refine (Z3v n (k : Int) w hn).mono ?_
  rintro e w' ⟨rfl, h⟩
  rw [clamp_is k hk]
  exact ⟨rfl, h⟩
theorem Z3d (l : List UInt8) (w : World) (hl : l.length ≤ 8) : Calls Try.prog 30 #[.string (sB l)] w fun e w' => e = .returned (.int .u64 (numL l : Nat)) ∧ Ext w w' := by
  refine (Z7f (sB l) w (by rw [Z00]; exact hl)).mono ?_
  rintro e w' ⟨rfl, rfl⟩
  exact ⟨rfl, Ext.refl _⟩
/-! Readers. -/
theorem OwnT.newUpd {t : TypeId} {cs : Array Value} (O : OwnT H A R w) (h : Upd w w.heap.size t cs w') : OwnT H A (tBlk w.heap.size t cs :: R) w' :=
  O.cons ⟨h.grown.os, h.grown.tape, h.grown.output, h.grown.size, fun i hi => h.grown.block i hi (fun e => by injection e with e; omega)⟩ (tBlk w.heap.size t cs) h.blk (fun i hi => by simp [tBlk] at hi; omega)
abbrev tRd (r : Nat) (l : List UInt8) (short : Bool) : Thing := tBlk r 149 #[.string (sB l), .bool short]
theorem or_of (l : List UInt8) (O : OwnT H A R w) : Calls Try.prog 50 #[.string (sB l)] w fun e w' => ∃ r, e = .returned (.pointer (some ⟨r, 0, none⟩)) ∧ OwnT H A (tRd r l false :: R) w' := by
  refine (of_any (sB l) w).mono ?_
  rintro e w' ⟨rfl, h⟩
  exact ⟨w.heap.size, rfl, O.newUpd h⟩
theorem Z26 (k : Nat) {short : Bool} (O : OwnT H A (tRd r l short :: R) w) (hk : 1 ≤ k ∧ k ≤ 8) (hl : l.length ≤ 1000000) :
    Calls Try.prog 51 #[.pointer (some ⟨r, 0, none⟩), .int .i64 (k : Nat)] w fun e w' => e = .returned (.int .u64 ((getN (l, short) k).1 : Nat)) ∧ OwnT H A (tRd r (getN (l, short) k).2.1 (getN (l, short) k).2.2 :: R) w' := by
  refine (get_any r (l, short) k w hk.1 hk.2 O.b0 hl).mono ?_
  rintro e w' ⟨rfl, h⟩
  exact ⟨rfl, O.upd h⟩
end

/-- The bytes ahead of a sum that is theirs. -/
def opn (l : List UInt8) : List UInt8 × Bool := if 4 ≤ l.length ∧ sealL (l.take (l.length - 4)) = l then (l.take (l.length - 4), true) else ([], false)
theorem opn_len (l : List UInt8) : (opn l).1.length ≤ l.length := by
  unfold opn
  split <;> simp
theorem ropen_l (l : List UInt8) (w : World) (hl : l.length ≤ 1000000000) : Calls Try.prog 29 #[.string (sB l)] w fun e w' => e = .returned (.tuple #[.string (sB (opn l).1), .bool (opn l).2]) ∧ Ext w w' := by
  have hs : (sB l).size = l.length := Z00 l
  unfold opn
  by_cases h4 : 4 ≤ l.length
  · by_cases h : sealL (l.take (l.length - 4)) = l
    · rw [if_pos ⟨h4, h⟩]
      refine (Z89 (sB l) w (by omega) (by omega) (by rw [hs]; exact h)).mono ?_
      rintro e w' ⟨rfl, h⟩
      exact ⟨by rw [hs]; rfl, h⟩
    · rw [if_neg fun x => h x.2]
      refine (ropen_no (sB l) w (by omega) (by omega) (by rw [hs]; exact h)).mono ?_
      rintro e w' ⟨rfl, h⟩
      exact ⟨rfl, h⟩
  · rw [if_neg fun x => h4 x.1]
    refine (Z5u (sB l) w (by omega)).mono ?_
    rintro e w' ⟨rfl, h⟩
    exact ⟨rfl, h⟩
theorem open_l (l : List UInt8) (w : World) (hl : l.length ≤ 1000000000) : Calls Try.prog 49 #[.string (sB l)] w fun e w' => e = .returned (.tuple #[.string (sB (opn l).1), .bool (opn l).2]) ∧ Ext w w' := by
  have hs : (sB l).size = l.length := Z00 l
  unfold opn
  by_cases h4 : 4 ≤ l.length
  · by_cases h : sealL (l.take (l.length - 4)) = l
    · rw [if_pos ⟨h4, h⟩]
      refine (Z6x (sB l) w (by omega) (by omega) (by rw [hs]; exact h)).mono ?_
      rintro e w' ⟨rfl, h⟩
      exact ⟨by rw [hs]; rfl, h⟩
    · rw [if_neg fun x => h x.2]
      refine (open_no (sB l) w (by omega) (by omega) (by rw [hs]; exact h)).mono ?_
      rintro e w' ⟨rfl, h⟩
      exact ⟨rfl, h⟩
  · rw [if_neg fun x => h4 x.1]
    refine (Z7e (sB l) w (by omega)).mono ?_
    rintro e w' ⟨rfl, h⟩
    exact ⟨rfl, h⟩
/-- The extents of n that bytes tell; none: there are too few. -/
def prs : Nat → List UInt8 → Option (List (Nat × ByteArray) × List UInt8)
  | 0, r => some ([], r)
  | n + 1, r => if r.length < 8 then none else if (r.length - 8) / 16 < numL ((r.take 8).drop 4) then none else
    match prs n (r.drop (8 + 16 * numL ((r.take 8).drop 4))) with
    | some (L, z) => some ((numL (r.take 4), sB ((r.drop 8).take (16 * numL ((r.take 8).drop 4)))) :: L, z)
    | none => none
def pap (acc : List (Nat × ByteArray)) : Option (List (Nat × ByteArray) × List UInt8) → Option (List (Nat × ByteArray) × List UInt8)
  | some (L, z) => some (acc ++ L, z)
  | none => none
theorem pap_nil (o) : pap [] o = o := by rcases o with _ | ⟨L, z⟩ <;> rfl
theorem Z2t (t : List UInt8) (p q : Nat) : (t.drop p).take q = (t.take (p + q)).drop p := by rw [List.drop_take, Nat.add_sub_cancel_left]
theorem prs_step (t : List UInt8) (p n : Nat) : prs (n + 1) (t.drop p) = if t.length - p < 8 then none else if (t.length - (p + 8)) / 16 < numL ((t.take (p + 8)).drop (p + 4)) then none else
    pap [(numL ((t.take (p + 4)).drop p), sB ((t.take (p + 8 + 16 * numL ((t.take (p + 8)).drop (p + 4)))).drop (p + 8)))] (prs n (t.drop (p + 8 + 16 * numL ((t.take (p + 8)).drop (p + 4))))) := by
  have e1 : ((t.drop p).take 8).drop 4 = (t.take (p + 8)).drop (p + 4) := by rw [Z2t, List.drop_drop]
  simp only [prs, e1, Z2t t p 4, List.length_drop, List.drop_drop, Z2t, Nat.sub_sub]
  split
  · rfl
  split
  · rfl
  rw [show p + (8 + 16 * numL ((t.take (p + 8)).drop (p + 4))) = p + 8 + 16 * numL ((t.take (p + 8)).drop (p + 4)) by omega]
  cases prs n (t.drop (p + 8 + 16 * numL ((t.take (p + 8)).drop (p + 4)))) with
  | none => rfl
  | some x => rfl
theorem pap_pap (a b o) : pap a (pap b o) = pap (a ++ b) o := by rcases o with _ | ⟨L, z⟩ <;> simp [pap]
/-- What bytes tell. -/
noncomputable def rdS (l : List UInt8) : Option (Nat × Nat × Nat × Nat × List (Nat × ByteArray)) :=
  let t := (opn l).1
  if (opn l).2 = true ∧ 18 ≤ t.length ∧ t[0]?.getD 0 = 83 then
    match prs (numL ((t.take 18).drop 14)) (t.drop 18) with
    | some (L, []) => if goodS (t[1]?.getD 0).toNat (numL ((t.take 6).drop 2)) (numL ((t.take 10).drop 6)) (numL ((t.take 14).drop 10)) L = true then some ((t[1]?.getD 0).toNat, numL ((t.take 6).drop 2), numL ((t.take 10).drop 6), numL ((t.take 14).drop 10), L) else none
    | _ => none
  else none
theorem num4 (t : List UInt8) (a b : Nat) (h : b ≤ a + 4) : numL ((t.take b).drop a) < 4294967296 := by
  have h1 := Z3f ((t.take b).drop a)
  have h2 : ((t.take b).drop a).length ≤ 4 := by simp; omega
  exact Nat.lt_of_lt_of_le h1 (Nat.le_trans (Nat.pow_le_pow_right (by omega) h2) (by decide))
abbrev zS : Value := .agg #[.int .i64 0, .int .i64 0, .int .u32 0, .int .u32 0, .slice none 0 0]
def RdP (H : Nat) (A : World) (R : List Thing) (o : Option (Nat × Nat × Nat × Nat × List (Nat × ByteArray))) (e : Ending) (w : World) : Prop := match o with
  | none => e = .returned (.tuple #[zS, .bool false]) ∧ OwnT H A R w
  | some (k, n, was, is, L) => ∃ v, e = .returned (.tuple #[stA k n was is v, .bool true]) ∧ OwnT H A (tXs v L :: R) w
set_option maxRecDepth 10000 in
theorem rread31S (l : List UInt8) (w0 : World) (hl : l.length ≤ 10000) :
    Calls Try.prog 11 #[.string (sB l)] w0 (RdP w0.heap.size w0 [] (rdS l)) := by
  refine fnG (OwnT.start w0) 115 Try.func11 rfl rfl rfl fun a h => ?_
  refine gX h [] rfl fun a w h => ?_
  refine gW h rfl fun g2 a w E h => ?_
  refine gX h [] rfl fun a w h => ?_
  refine gE h rfl (ropen_l l w (by omega)) fun a w E h => ?_
  have htl := opn_len l
  have hno : ¬ ((opn l).2 = true ∧ 18 ≤ (opn l).1.length ∧ (opn l).1[0]?.getD 0 = 83) → rdS l = none := fun hn => by unfold rdS; simp only; rw [if_neg hn]
  have hyes : (opn l).2 = true ∧ 18 ≤ (opn l).1.length ∧ (opn l).1[0]?.getD 0 = 83 → rdS l = (match prs (numL (((opn l).1.take 18).drop 14)) ((opn l).1.drop 18) with
    | some (L, []) => if goodS ((opn l).1[1]?.getD 0).toNat (numL (((opn l).1.take 6).drop 2)) (numL (((opn l).1.take 10).drop 6)) (numL (((opn l).1.take 14).drop 10)) L = true then some (((opn l).1[1]?.getD 0).toNat, numL (((opn l).1.take 6).drop 2), numL (((opn l).1.take 10).drop 6), numL (((opn l).1.take 14).drop 10), L) else none
    | _ => none) := fun hn => by unfold rdS; simp only; rw [if_pos hn]
  generalize hD0 : rdS l = D at hno hyes ⊢
  clear hD0
  generalize opn l = o at h htl hno hyes
  obtain ⟨t, ok⟩ := o
  simp only at h htl hno hyes
  cases ok with
  | false =>
    obtain rfl := hno (by simp)
    refine gX h [0] rfl fun a w h => ?_
    exact rtG Z07 h [0] rfl ⟨rfl, trivial⟩ ⟨rfl, h.O.tail⟩
  | true =>
  by_cases h1 : 18 ≤ t.length
  rotate_left
  · obtain rfl := hno (by simp [h1])
    refine gX h [vi t.length, .t, 0] rfl fun a w h => ?_
    exact rtG Z07 h [0] rfl ⟨rfl, trivial⟩ ⟨rfl, h.O.tail⟩
  obtain ⟨t0, ht0⟩ : ∃ x : UInt8, t[0]?.getD 0 = x := ⟨_, rfl⟩
  rw [ht0] at hno hyes
  by_cases h2 : t0 = 83
  rotate_left
  · obtain rfl := hno (fun x => h2 x.2.2)
    have h2' : ¬ (t0.toNat : Int) = 83 := fun h => h2 (UInt8.toNat_inj.1 (by simpa using (by omega : t0.toNat = 83)))
    refine gX h [vi t.length, .f, .v (.int .u8 (t0.toNat : Int)), .t, 0] rfl (hv := by (try simp only [AllP, inK, and_true, true_and]) <;> (repeat' apply And.intro) <;> first | exact trivial | rfl | assumption | exact (congrArg (fun z : UInt8 => (z.toNat : Int)) ht0) | omega | (simp; done) | (simp; omega)) fun a w h => ?_
    exact rtG Z07 h [0] rfl ⟨rfl, trivial⟩ ⟨rfl, h.O.tail⟩
  subst h2
  replace hyes := hyes ⟨rfl, h1, rfl⟩
  clear hno
  refine gX h [vi t.length, .f, .v (.int .u8 ((83 : UInt8).toNat : Int)), .f, .k [99]] rfl (hv := by (try simp only [AllP, inK, and_true, true_and]) <;> (repeat' apply And.intro) <;> first | exact trivial | rfl | assumption | exact (congrArg (fun z : UInt8 => (z.toNat : Int)) ht0) | omega | (simp; done) | (simp; omega)) fun a w h => ?_
  obtain ⟨k, hk⟩ : ∃ k : Nat, (t[1]?.getD 0).toNat = k := ⟨_, rfl⟩
  have hk2 : k < 256 := by rw [← hk]; exact UInt8.toNat_lt _
  have b1 := num4 t 2 6 (by omega)
  have b2 := num4 t 6 10 (by omega)
  have b3 := num4 t 10 14 (by omega)
  have b4 := num4 t 14 18 (by omega)
  rw [hk] at hyes
  have C1 : ∀ i, ∀ w, True → Calls Try.prog 30 ⟨[.string (sB ((t.take (i + 4)).drop i))]⟩ w fun e w' => e = .returned (.int .u64 (numL ((t.take (i + 4)).drop i) : Nat)) ∧ Ext w w' := fun i w _ => Z3d _ w (by simp; omega)
  have c1 := fun w (_ : OwnT w0.heap.size w0 [tBlk g2 30 ⟨[.int .i64 0, .int .i64 0, .int .u32 0, .int .u32 0, .slice none 0 0]⟩] w) => C1 2 w trivial
  have c2 := fun w (_ : OwnT w0.heap.size w0 [tBlk g2 30 ⟨[.int .i64 0, .int .i64 0, .int .u32 0, .int .u32 0, .slice none 0 0]⟩] w) => C1 6 w trivial
  have c3 := fun w (_ : OwnT w0.heap.size w0 [tBlk g2 30 ⟨[.int .i64 0, .int .i64 0, .int .u32 0, .int .u32 0, .slice none 0 0]⟩] w) => C1 10 w trivial
  have c4 := C1 14
  simp only [Nat.reduceAdd] at c1 c2 c3 c4
  generalize numL ((t.take 6).drop 2) = n at b1 c1 hyes
  generalize numL ((t.take 10).drop 6) = was at b2 c2 hyes
  generalize numL ((t.take 14).drop 10) = is at b3 c3 hyes
  generalize numL ((t.take 18).drop 14) = m at b4 c4 hyes
  refine gDb Z10 Z07 h 17 [.v (.int .u8 (k : Nat)), vs (sB ((t.take 6).drop 2)), .v (.int .u64 (n : Nat)), vs (sB ((t.take 10).drop 6)), .v (.int .u64 (was : Nat)), vs (sB ((t.take 14).drop 10)), .v (.int .u64 (is : Nat))] rfl (by (try simp only [AllP, inK, and_true, true_and]) <;> (repeat' apply And.intro) <;> first | exact trivial | rfl | assumption | exact c1 | exact c2 | exact c3 | exact (congrArg (fun z : Nat => (z : Int)) hk) | omega | (simp; done) | (simp; omega)) (by repeat first | exact List.Mem.head _ | apply List.Mem.tail) rfl (by kernel_rfl) rfl fun g6 a w E h => ?_
  refine gX h [0] rfl fun a w h => ?_
  refine gE h rfl (c4 w trivial) fun a w E h => ?_
  refine gX h [] rfl fun a w h => ?_
  refine lpG (G := Nat × Nat × List (Nat × ByteArray) × Value) (fun g => [(2, .pointer (some ⟨g2, 0, none⟩)), (4, .string (sB t)), (6, .pointer (some ⟨g6, 0, none⟩)), (7, .int .i64 m), (8, .int .i64 g.2.1), (9, .int .i64 g.1)])
    (fun g => [tBlk g6 30 ⟨[.int .i64 k, .int .i64 n, .int .u32 was, .int .u32 is, g.2.2.2]⟩, tBlk g2 30 ⟨[.int .i64 0, .int .i64 0, .int .u32 0, .int .u32 0, .slice none 0 0]⟩, tXs g.2.2.2 g.2.2.1])
    (fun g => g.1 ≤ m ∧ g.2.1 ≤ t.length ∧ 8 * g.2.2.1.length + 18 ≤ g.2.1 ∧ (∀ x ∈ g.2.2.1, x.1 < 4294967296 ∧ x.2.size ≤ 100000) ∧ prs m (t.drop 18) = pap g.2.2.1 (prs (m - g.1) (t.drop g.2.1))) (fun g => m - g.1) (0, 18, [], .slice none 0 0) h ⟨rfl, rfl, rfl, rfl, rfl, rfl, trivial⟩
    (h.O.cons (Ext.refl _) (tXs (.slice none 0 0) []) (show World.ownsRow _ 0 _ _ _ _ _ from ⟨rfl, .inl ⟨rfl, rfl⟩⟩) (fun i hi => by simp [tRow, Value.ownBlock] at hi) |>.perm (.trans (.swap _ _ _) (.cons _ (.swap _ _ _)))) ⟨Nat.zero_le _, h1, by simp, by simp, by rw [pap_nil]; rfl⟩ fun g ⟨hi, hp, h8, hx, hpr⟩ a w h => ?_
  obtain ⟨i, p, acc, v⟩ := g
  simp only at hi hp h8 hx hpr h ⊢
  have hlen : t.length ≤ 10000 := by omega
  by_cases h3 : i < m
  · obtain ⟨j, hj⟩ : ∃ j, m - i = j + 1 := ⟨m - i - 1, by omega⟩
    have hj2 : m - (i + 1) = j := by omega
    rw [hj, prs_step] at hpr
    by_cases h4 : t.length - p < 8
    · rw [if_pos h4] at hpr
      rw [hpr] at hyes
      obtain rfl : D = none := hyes
      refine gX h [.t, vi t.length, vi (t.length - p : Nat), .t, 1] rfl fun a w h => ?_
      exact rtG Z07 h [1] rfl ⟨rfl, trivial⟩ ⟨rfl, h.O.sub (List.nil_sublist _)⟩
    rw [if_neg h4] at hpr
    have d1 := num4 t p (p + 4) (by omega)
    have d2 := num4 t (p + 4) (p + 8) (by omega)
    have e1 := fun w => Z3d ((t.take (p + 4)).drop p) w (by simp; omega)
    have e2 := fun w => Z3d ((t.take (p + 8)).drop (p + 4)) w (by simp; omega)
    generalize numL ((t.take (p + 4)).drop p) = n1 at d1 e1 hpr
    generalize numL ((t.take (p + 8)).drop (p + 4)) = n2 at d2 e2 hpr
    refine gX h [.t, vi t.length, vi (t.length - p : Nat), .f, vi (p + 4 : Nat), vs (sB ((t.take (p + 4)).drop p))] rfl fun a w h => ?_
    refine gC h rfl (e1 w) ?_
    rintro e w' ⟨rfl, E⟩
    refine ⟨_, rfl, _, h.O.ext E, trivial, fun a h => ?_⟩
    refine gX h [vi n1, vi (p + 4 : Nat), vi (p + 8 : Nat), vs (sB ((t.take (p + 8)).drop (p + 4)))] rfl fun a w h => ?_
    refine gE h rfl (e2 w) fun a w E h => ?_
    by_cases h5 : (t.length - (p + 8)) / 16 < n2
    · rw [if_pos h5] at hpr
      rw [hpr] at hyes
      obtain rfl : D = none := hyes
      refine gX h [vi n2, vi (p + 8 : Nat), vi t.length, vi (t.length - (p + 8) : Nat), vi ((t.length - (p + 8)) / 16 : Nat), .t, 1] rfl fun a w h => ?_
      exact rtG Z07 h [1] rfl ⟨rfl, trivial⟩ ⟨rfl, h.O.sub (List.nil_sublist _)⟩
    rw [if_neg h5, pap_pap] at hpr
    refine gX h [vi n2, vi (p + 8 : Nat), vi t.length, vi (t.length - (p + 8) : Nat), vi ((t.length - (p + 8)) / 16 : Nat), .f, .k [99]] rfl fun a w h => ?_
    have hp2 : p + 8 + 16 * n2 ≤ t.length := by omega
    refine gDb Z10 Z07 h 12 [0, .v v, vi (16 * n2 : Nat), vi (p + 8 + 16 * n2 : Nat), vs (sB ((t.take (p + 8 + 16 * n2)).drop (p + 8))), .n 73, .n 2, .n 24] rfl (by (try simp only [AllP, inK, and_true, true_and]) <;> (repeat' apply And.intro) <;> first | exact trivial | rfl | assumption | omega | (simp; done) | (simp; omega)) (by repeat first | exact List.Mem.head _ | apply List.Mem.tail) rfl (by kernel_rfl) rfl fun g1 a w E h => ?_
    refine gA (bytes := 24) h rfl 2 rfl (fun _ _ => rfl) (by omega) (fun _ _ _ _ => trivial) fun B c a w h => ?_
    rw [← Z0j] at h
    refine gX h [0, vi (16 * n2 : Nat), vi (p + 8 + 16 * n2 : Nat)] rfl fun a w h => ?_
    have hdl : ((t.take (p + 8 + 16 * n2)).drop (p + 8)).length ≤ 100000 := by simp; omega
    exact reG (i + 1, p + 8 + 16 * n2, acc ++ [(n1, sB ((t.take (p + 8 + 16 * n2)).drop (p + 8)))], _) h ⟨rfl, rfl, rfl, rfl, rfl, rfl, trivial⟩ (by
      show OwnT _ _ [_, _, tRow _ 2 _ (acc ++ [(n1, sB ((t.take (p + 8 + 16 * n2)).drop (p + 8)))]).length (flatX (acc ++ [(n1, sB ((t.take (p + 8 + 16 * n2)).drop (p + 8)))]))] w
      rw [List.length_append]
      exact h.O) ⟨h3, hp2, by simp only [List.length_append, List.length_singleton]; omega, fun x hx0 => by
        rcases List.mem_append.1 hx0 with hx0 | hx0
        · exact hx x hx0
        · simp only [List.mem_singleton] at hx0
          subst hx0
          exact ⟨d1, by rw [Z00]; exact hdl⟩, by simp only [hj2]; exact hpr⟩ (by simp only; omega)
  · obtain rfl : i = m := by omega
    rw [Nat.sub_self] at hpr
    have hpr : prs i (t.drop 18) = some (acc, t.drop p) := by rw [hpr]; simp [prs, pap]
    rw [hpr] at hyes
    by_cases h4 : p = t.length
    · subst h4
      rw [List.drop_length] at hyes
      simp only at hyes
      refine gX h [.f, vi t.length, .f, 0] rfl fun a w h => ?_
      refine gE h rfl (rgood31E k n was is acc w h.O.all.2.2.1 (by omega) (fun x hx0 => by have := hx x hx0; omega) hk2 b1) fun a w E h => ?_
      cases hgd : goodS k n was is acc with
      | false =>
        rw [hgd] at h hyes
        simp only [Bool.false_eq_true, if_false] at hyes
        subst hyes
        refine gX h [1] rfl fun a w h => ?_
        exact rtG Z07 h [1] rfl ⟨rfl, trivial⟩ ⟨rfl, h.O.sub (List.nil_sublist _)⟩
      | true =>
        rw [hgd] at h hyes
        simp only [if_true] at hyes
        subst hyes
        obtain ⟨B, c, rfl⟩ := Z05 (show World.ownsRow _ 0 _ _ _ _ _ from h.O.all.2.2.1)
        refine gX h [0, 1] rfl fun a w h => ?_
        exact rtG Z07 h [1] rfl ⟨rfl, trivial⟩ ⟨_, rfl, h.O.sub (.cons _ (.cons _ (List.Sublist.refl _)))⟩
    · have hne : t.drop p ≠ [] := by simp; omega
      have hD : D = none := by
        rw [hyes]
        cases hd : t.drop p with
        | nil => exact absurd hd hne
        | cons x l => rfl
      subst hD
      refine gX h [.f, vi t.length, .t, 1] rfl fun a w h => ?_
      exact rtG Z07 h [1] rfl ⟨rfl, trivial⟩ ⟨rfl, h.O.sub (List.nil_sublist _)⟩

/-- The next n bytes of a reader. -/
def takN (st : List UInt8 × Bool) (n : Nat) : List UInt8 × (List UInt8 × Bool) := if n ≤ st.1.length then (st.1.take n, (st.1.drop n, st.2)) else ([], ([], true))
theorem Z6m (st : List UInt8 × Bool) (n : Nat) : (takN st n).1.length ≤ st.1.length ∧ (takN st n).2.1.length ≤ st.1.length := by
  unfold takN
  split <;> simp <;> omega
theorem Z0p (st : List UInt8 × Bool) (k : Nat) : (getN st k).2.1.length ≤ st.1.length := by
  unfold getN
  split <;> simp
theorem or_takN {H : Nat} {A w : World} {R : List Thing} {r : Nat} (st : List UInt8 × Bool) (n : Nat) (O : OwnT H A (tRd r st.1 st.2 :: R) w) (hl : st.1.length ≤ 1000000) (hn : n ≤ 1000000) :
    Calls Try.prog 75 #[.pointer (some ⟨r, 0, none⟩), .int .i64 (n : Nat)] w fun e w' => e = .returned (.string (sB (takN st n).1)) ∧ OwnT H A (tRd r (takN st n).2.1 (takN st n).2.2 :: R) w' := by
  obtain ⟨l, short⟩ := st
  simp only at O hl
  unfold takN
  by_cases h : n ≤ l.length
  · simp only [if_pos h]
    refine (Z49 r (sB l) short n w O.b0 (by rw [Z00]; exact h) (by rw [Z00]; omega)).mono ?_
    rintro e w' ⟨rfl, h⟩
    rw [Z3u, Z00] at h
    rw [Z3u, List.drop_zero]
    rw [List.take_length] at h
    exact ⟨rfl, O.upd h⟩
  · simp only [if_neg h]
    refine (Z3r r (sB l) short n w O.b0 (by rw [Z00]; omega) (by omega)).mono ?_
    rintro e w' ⟨rfl, h⟩
    exact ⟨rfl, O.upd h⟩
/-- n extents out of a reader, each of 1 to most sectors. -/
def pxt (most : Nat) : Nat → List UInt8 × Bool → Option (List (Nat × ByteArray) × (List UInt8 × Bool))
  | 0, st => some ([], st)
  | n + 1, st => if (getN (getN st 4).2 4).1 < 1 ∨ most < (getN (getN st 4).2 4).1 then none else
    match pxt most n (takN (getN (getN st 4).2 4).2 ((getN (getN st 4).2 4).1 * 16)).2 with
    | some (L, z) => some (((getN st 4).1, sB (takN (getN (getN st 4).2 4).2 ((getN (getN st 4).2 4).1 * 16)).1) :: L, z)
    | none => none
def pax (acc : List (Nat × ByteArray)) : Option (List (Nat × ByteArray) × (List UInt8 × Bool)) → Option (List (Nat × ByteArray) × (List UInt8 × Bool))
  | some (L, z) => some (acc ++ L, z)
  | none => none
theorem pax_nil (o) : pax [] o = o := by rcases o with _ | ⟨L, z⟩ <;> rfl
theorem pax_step (most n : Nat) (st : List UInt8 × Bool) (acc : List (Nat × ByteArray)) (h : ¬ ((getN (getN st 4).2 4).1 < 1 ∨ most < (getN (getN st 4).2 4).1)) : pax acc (pxt most (n + 1) st) = pax (acc ++ [((getN st 4).1, sB (takN (getN (getN st 4).2 4).2 ((getN (getN st 4).2 4).1 * 16)).1)]) (pxt most n (takN (getN (getN st 4).2 4).2 ((getN (getN st 4).2 4).1 * 16)).2) := by
  rw [pxt, if_neg h]
  cases pxt most n (takN (getN (getN st 4).2 4).2 ((getN (getN st 4).2 4).1 * 16)).2 with
  | none => rfl
  | some x => simp [pax]
abbrev tPx (v : Value) (L : List (Nat × ByteArray)) : Thing := tRow 107 2 v L.length (flatX L)
def ExP (H : Nat) (A : World) (R : List Thing) (r : Nat) (o : Option (List (Nat × ByteArray) × (List UInt8 × Bool))) (e : Ending) (w : World) : Prop := match o with
  | none => e = .returned (.tuple #[.slice none 0 0, .bool false]) ∧ ∃ st : List UInt8 × Bool, OwnT H A (tRd r st.1 st.2 :: R) w
  | some (L, st) => ∃ v, e = .returned (.tuple #[v, .bool true]) ∧ OwnT H A (tRd r st.1 st.2 :: tPx v L :: R) w
set_option maxRecDepth 10000 in
theorem pextE {H : Nat} {A : World} {R : List Thing} {r : Nat} (st : List UInt8 × Bool) (n most : Nat) (w : World) (O : OwnT H A (tRd r st.1 st.2 :: R) w) (hl : st.1.length ≤ 100000) (hn : n ≤ 4096) (hm : most ≤ 4096) :
    Calls Try.prog 52 #[.pointer (some ⟨r, 0, none⟩), .int .i64 n, .int .i64 most] w (ExP H A R r (pxt most n st)) := by
  refine fnG O 38 Try.func52 rfl rfl rfl fun a h => ?_
  refine gX h [] rfl fun a w h => ?_
  refine lpG (G := Nat × (List UInt8 × Bool) × List (Nat × ByteArray) × Value) (fun g => [(0, .pointer (some ⟨r, 0, none⟩)), (2, .int .i64 most), (8, g.2.2.2), (11, .int .i64 n), (12, .int .i64 g.1)])
    (fun g => tRd r g.2.1.1 g.2.1.2 :: tPx g.2.2.2 g.2.2.1 :: R)
    (fun g => g.1 ≤ n ∧ g.2.1.1.length ≤ 100000 ∧ g.2.2.1.length = g.1 ∧ pxt most n st = pax g.2.2.1 (pxt most (n - g.1) g.2.1)) (fun g => n - g.1) (0, st, [], .slice none 0 0) h ⟨rfl, rfl, rfl, rfl, rfl, trivial⟩
    (h.O.cons (Ext.refl _) (tPx (.slice none 0 0) []) (show World.ownsRow _ 0 _ _ _ _ _ from ⟨rfl, .inl ⟨rfl, rfl⟩⟩) (fun i hi => by simp [tRow, Value.ownBlock] at hi) |>.perm (.swap _ _ _)) ⟨Nat.zero_le _, hl, rfl, by rw [pax_nil]; rfl⟩ fun g ⟨hi, hs, ha, hpr⟩ a w h => ?_
  obtain ⟨i, s, acc, v⟩ := g
  simp only at hi hs ha hpr h ⊢
  by_cases h3 : i < n
  · obtain ⟨j, hj⟩ : ∃ j, n - i = j + 1 := ⟨n - i - 1, by omega⟩
    have hj2 : n - (i + 1) = j := by omega
    rw [hj] at hpr
    have e1 := Z0p s 4
    have e2 := Z0p (getN s 4).2 4
    have b1 := Z1f s 4
    have b2 := Z1f (getN s 4).2 4
    have hps := pax_step most j s acc
    have hnn : (getN (getN s 4).2 4).1 < 1 ∨ most < (getN (getN s 4).2 4).1 → pxt most (j + 1) s = none := fun q => by rw [pxt, if_pos q]
    have c1 := Z26 (l := s.1) (short := s.2) 4 (O := h.O) (by omega) (by omega)
    refine gX h [.t] rfl fun a w h => ?_
    refine gC h rfl (Z26 (l := s.1) (short := s.2) 4 h.O (by omega) (by omega)) ?_
    rintro e w ⟨rfl, O2⟩
    refine ⟨_, rfl, _, O2, trivial, fun a h => ?_⟩
    rw [show (s.1, s.2) = s from rfl] at h
    generalize getN s 4 = g1 at h e1 e2 b1 b2 hps hnn
    obtain ⟨n1, s1⟩ := g1
    simp only at h e1 e2 b1 b2 hps hnn
    refine gX h [vi n1] rfl fun a w h => ?_
    refine gC h rfl (Z26 (l := s1.1) (short := s1.2) 4 h.O (by omega) (by omega)) ?_
    rintro e w ⟨rfl, O2⟩
    refine ⟨_, rfl, _, O2, trivial, fun a h => ?_⟩
    rw [show (s1.1, s1.2) = s1 from rfl] at h
    generalize getN s1 4 = g2 at h e2 b2 hps hnn
    obtain ⟨n2, s2⟩ := g2
    simp only at h e2 b2 hps hnn
    by_cases h4 : n2 < 1
    · rw [hnn (.inl h4)] at hpr
      rw [hpr]
      refine gX h [vi n2, .t] rfl fun a w h => ?_
      exact gR h rfl ⟨rfl, s2, h.O.sub (.cons_cons _ (.cons _ (List.Sublist.refl _)))⟩
    by_cases h5 : most < n2
    · rw [hnn (.inr h5)] at hpr
      rw [hpr]
      refine gX h [vi n2, .f, .t] rfl fun a w h => ?_
      exact gR h rfl ⟨rfl, s2, h.O.sub (.cons_cons _ (.cons _ (List.Sublist.refl _)))⟩
    rw [hps (by omega)] at hpr
    refine gX h [vi n2, .f, .f, vi (n2 * 16 : Nat)] rfl fun a w h => ?_
    refine gC h rfl (or_takN s2 (n2 * 16) h.O (by omega) (by omega)) ?_
    rintro e w ⟨rfl, O2⟩
    refine ⟨_, rfl, _, O2, trivial, fun a h => ?_⟩
    have e3 := Z6m s2 (n2 * 16)
    generalize takN s2 (n2 * 16) = g3 at h e3 hpr
    obtain ⟨d, s3⟩ := g3
    simp only at h e3 hpr
    refine gX h [] rfl fun a w h => ?_
    refine gS (bytes := 24) h 107 2 rfl fun g1 a w hE h => ?_
    refine gA (bytes := 24) h rfl 1 rfl (fun _ _ => rfl) (by omega) (fun _ _ _ _ => trivial) fun B c a w h => ?_
    rw [← Z0j] at h
    refine gX h [] rfl fun a w h => ?_
    exact reG (i + 1, s3, acc ++ [(n1, sB d)], _) h ⟨rfl, rfl, rfl, rfl, rfl, trivial⟩ (by
      show OwnT _ _ (_ :: tRow _ 2 _ (acc ++ [(n1, sB d)]).length (flatX (acc ++ [(n1, sB d)])) :: R) w
      rw [List.length_append]
      exact h.O) ⟨h3, by simp only; omega, by simp [ha], by simp only [hj2]; exact hpr⟩ (by simp only; omega)
  · obtain rfl : i = n := by omega
    rw [Nat.sub_self] at hpr
    have hpr : pxt most i st = some (acc, s) := by rw [hpr]; simp [pxt, pax]
    rw [hpr]
    refine gX h [.f] rfl fun a w h => ?_
    exact gR h rfl ⟨_, rfl, h.O⟩

/-- What bytes tell, as ship reads it. -/
noncomputable def prdO (o : List UInt8 × Bool) : Option (Nat × Nat × Nat × Nat × List (Nat × ByteArray)) :=
  let g1 := getN (o.1, false) 1
  let g2 := getN g1.2 1
  let g3 := getN g2.2 4
  let g4 := getN g3.2 4
  let g5 := getN g4.2 4
  let g6 := getN g5.2 4
  if o.2 = true ∧ g1.1 = 83 ∧ g3.1 ≤ 4096 ∧ g6.1 ≤ g3.1 then
    match pxt g3.1 g6.1 g6.2 with
    | some (L, st) => if st = ([], false) ∧ goodS g2.1 g3.1 g4.1 g5.1 L = true then some (g2.1, g3.1, g4.1, g5.1, L) else none
    | none => none
  else none
noncomputable def prdS (l : List UInt8) := prdO (opn l)
theorem pend {H : Nat} {A w : World} {R : List Thing} {r : Nat} (st : List UInt8 × Bool) (O : OwnT H A (tRd r st.1 st.2 :: R) w) :
    Calls Try.prog 53 #[.pointer (some ⟨r, 0, none⟩)] w fun e w' => e = .returned (.int .i64 (if st = ([], false) then 0 else 3)) ∧ OwnT H A (tRd r st.1 st.2 :: R) w' := by
  obtain ⟨l, s⟩ := st
  cases s with
  | true =>
    rw [if_neg (by simp)]
    refine fnG O 18 Try.func53 rfl rfl rfl fun a h => ?_
    refine gX h [0] rfl fun a w h => ?_
    exact gR h rfl ⟨rfl, h.O⟩
  | false =>
    by_cases hl : l = []
    · subst hl
      rw [if_pos rfl]
      refine fnG O 18 Try.func53 rfl rfl rfl fun a h => ?_
      refine gX h [0, 0, .f] rfl fun a w h => ?_
      exact gR h rfl ⟨rfl, h.O⟩
    · rw [if_neg (by simp [hl])]
      refine fnG O 18 Try.func53 rfl rfl rfl fun a h => ?_
      refine gX h [0, 0, .t] rfl fun a w h => ?_
      exact gR h rfl ⟨rfl, h.O⟩
theorem pxt_bd (most : Nat) : ∀ (n : Nat) (st : List UInt8 × Bool) (L : List (Nat × ByteArray)) (z : List UInt8 × Bool), pxt most n st = some (L, z) → st.1.length ≤ 100000 → L.length = n ∧ ∀ x ∈ L, x.1 < 4294967296 ∧ x.2.size ≤ 100000
  | 0, st, L, z, h, _ => by simp only [pxt] at h; cases h; exact ⟨rfl, by simp⟩
  | n + 1, st, L, z, h, hl => by
    rw [pxt] at h
    split at h
    · cases h
    · split at h
      · rename_i L' z' hr
        cases h
        have e3 := Z6m (getN (getN st 4).2 4).2 ((getN (getN st 4).2 4).1 * 16)
        have e1 := Z0p st 4
        have e2 := Z0p (getN st 4).2 4
        obtain ⟨i1, i2⟩ := pxt_bd most n _ _ _ hr (by omega)
        refine ⟨by simp [i1], fun x hx => ?_⟩
        rcases List.mem_cons.1 hx with rfl | hx
        · exact ⟨Z1f st 4, by rw [Z00]; omega⟩
        · exact i2 x hx
      · cases h
abbrev zP : Value := .agg #[.int .i64 0, .int .i64 0, .int .u32 0, .int .u32 0]
def PrP (H : Nat) (A : World) (R : List Thing) (o : Option (Nat × Nat × Nat × Nat × List (Nat × ByteArray))) (e : Ending) (w : World) : Prop := match o with
  | none => e = .returned (.tuple #[zP, .slice none 0 0, .int .i64 3]) ∧ OwnT H A R w
  | some (k, n, was, is, L) => ∃ v, e = .returned (.tuple #[streamV k n was is, v, .int .i64 0]) ∧ OwnT H A (tPx v L :: R) w
set_option maxRecDepth 10000 in
theorem preadE {H : Nat} {A : World} {R : List Thing} (l : List UInt8) (w : World) (O : OwnT H A R w) (hl : l.length ≤ 10000) :
    Calls Try.prog 27 #[.string (sB l)] w (PrP H A R (prdS l)) := by
  refine fnG O 81 Try.func27 rfl rfl rfl fun a h => ?_
  refine gX h [] rfl fun a w h => ?_
  refine gW h rfl fun g2 a w E h => ?_
  refine gX h [] rfl fun a w h => ?_
  refine gE h rfl (open_l l w (by omega)) fun a w E h => ?_
  have htl := opn_len l
  unfold prdS
  generalize opn l = o at h htl ⊢
  obtain ⟨t, ok⟩ := o
  simp only at h htl
  cases ok with
  | false =>
    rw [show prdO (t, false) = none by simp [prdO]]
    refine gX h [0] rfl fun a w h => ?_
    exact rtG Z07 h [0] rfl ⟨rfl, trivial⟩ ⟨rfl, h.O.tail⟩
  | true =>
  refine gX h [] rfl fun a w h => ?_
  refine gC h rfl (or_of t h.O) ?_
  rintro e w ⟨r, rfl, O2⟩
  refine ⟨_, rfl, _, O2, trivial, fun a h => ?_⟩
  obtain ⟨D, hD⟩ : ∃ D, prdO (t, true) = D := ⟨_, rfl⟩
  rw [hD]
  simp only [prdO, true_and] at hD
  obtain ⟨s0, hs0⟩ : ∃ s : List UInt8 × Bool, (t, false) = s := ⟨_, rfl⟩
  have h0 : s0.1 = t ∧ s0.2 = false := by subst hs0; exact ⟨rfl, rfl⟩
  refine gX h [] rfl fun a w h => ?_
  rw [hs0] at hD
  rw [← h0.1, ← h0.2] at h
  rw [← h0.1] at htl
  refine gC h rfl (Z26 (l := s0.1) (short := s0.2) 1 h.O (by omega) (by omega)) ?_
  rintro e w ⟨rfl, O2⟩
  refine ⟨_, rfl, _, O2, trivial, fun a h => ?_⟩
  rw [show (s0.1, s0.2) = s0 from rfl] at h
  have qn1 := Z0p s0 1
  have pn1 := Z1f s0 1
  generalize getN s0 1 = g at h qn1 pn1 hD
  obtain ⟨n1, s1⟩ := g
  simp only at h qn1 pn1 hD
  refine gX h [.s] rfl fun a w h => ?_
  refine gC h rfl (Z26 (l := s1.1) (short := s1.2) 1 h.O (by omega) (by omega)) ?_
  rintro e w ⟨rfl, O2⟩
  refine ⟨_, rfl, _, O2, trivial, fun a h => ?_⟩
  rw [show (s1.1, s1.2) = s1 from rfl] at h
  have qk := Z0p s1 1
  have pk := Z1f s1 1
  generalize getN s1 1 = g at h qk pk hD
  obtain ⟨k, s2⟩ := g
  simp only at h qk pk hD
  refine gX h [vi k] rfl fun a w h => ?_
  refine gC h rfl (Z26 (l := s2.1) (short := s2.2) 4 h.O (by omega) (by omega)) ?_
  rintro e w ⟨rfl, O2⟩
  refine ⟨_, rfl, _, O2, trivial, fun a h => ?_⟩
  rw [show (s2.1, s2.2) = s2 from rfl] at h
  have qn := Z0p s2 4
  have pn := Z1f s2 4
  generalize getN s2 4 = g at h qn pn hD
  obtain ⟨n, s3⟩ := g
  simp only at h qn pn hD
  refine gX h [vi n] rfl fun a w h => ?_
  refine gW h rfl fun g9 a w E h => ?_
  replace h := h.with (h.O.perm (.swap _ _ _))
  refine gX h [1] rfl fun a w h => ?_
  refine gC h rfl (Z26 (l := s3.1) (short := s3.2) 4 h.O (by omega) (by omega)) ?_
  rintro e w ⟨rfl, O2⟩
  refine ⟨_, rfl, _, O2, trivial, fun a h => ?_⟩
  rw [show (s3.1, s3.2) = s3 from rfl] at h
  have qwas := Z0p s3 4
  have pwas := Z1f s3 4
  generalize getN s3 4 = g at h qwas pwas hD
  obtain ⟨was, s4⟩ := g
  simp only at h qwas pwas hD
  refine gX h [.v (.int .u32 was), 1] rfl fun a w h => ?_
  refine gC h rfl (Z26 (l := s4.1) (short := s4.2) 4 h.O (by omega) (by omega)) ?_
  rintro e w ⟨rfl, O2⟩
  refine ⟨_, rfl, _, O2, trivial, fun a h => ?_⟩
  rw [show (s4.1, s4.2) = s4 from rfl] at h
  have qis := Z0p s4 4
  have pis := Z1f s4 4
  generalize getN s4 4 = g at h qis pis hD
  obtain ⟨is, s5⟩ := g
  simp only at h qis pis hD
  refine gX h [.v (.int .u32 is), 1] rfl fun a w h => ?_
  refine gC h rfl (Z26 (l := s5.1) (short := s5.2) 4 h.O (by omega) (by omega)) ?_
  rintro e w ⟨rfl, O2⟩
  refine ⟨_, rfl, _, O2, trivial, fun a h => ?_⟩
  rw [show (s5.1, s5.2) = s5 from rfl] at h
  have qm := Z0p s5 4
  have pm := Z1f s5 4
  generalize getN s5 4 = g at h qm pm hD
  obtain ⟨m, s6⟩ := g
  simp only at h qm pm hD
  by_cases h1 : n1 = 83
  rotate_left
  · rw [decide_eq_false (show ¬ (n1 : Int) = 83 by omega)] at h
    rw [if_neg (by omega)] at hD
    subst hD
    refine gX h [vi m, 2] rfl fun a w h => ?_
    exact rtG Z07 h [2] rfl ⟨rfl, trivial⟩ ⟨rfl, h.O.tail.tail.tail⟩
  rw [decide_eq_true (show (n1 : Int) = 83 by omega)] at h
  by_cases h2 : n ≤ 4096
  rotate_left
  · rw [if_neg (by omega)] at hD
    subst hD
    refine gX h [vi m, 1, .t, 2] rfl fun a w h => ?_
    exact rtG Z07 h [2] rfl ⟨rfl, trivial⟩ ⟨rfl, h.O.tail.tail.tail⟩
  by_cases h3 : m ≤ n
  rotate_left
  · rw [if_neg (by omega)] at hD
    subst hD
    refine gX h [vi m, 1, .f, 1, .t, 2] rfl fun a w h => ?_
    exact rtG Z07 h [2] rfl ⟨rfl, trivial⟩ ⟨rfl, h.O.tail.tail.tail⟩
  rw [if_pos ⟨h1, h2, h3⟩] at hD
  refine gX h [vi m, 1, .f, 1, .f, 1] rfl fun a w h => ?_
  refine gC h rfl (pextE s6 m n w h.O (by omega) (by omega) h2) ?_
  intro e w hP
  cases hx : pxt n m s6 with
  | none =>
    rw [hx] at hP hD
    simp only at hD
    subst hD
    obtain ⟨rfl, st, O2⟩ := hP
    refine ⟨_, rfl, _, O2, trivial, fun a h => ?_⟩
    refine gX h [2] rfl fun a w h => ?_
    exact rtG Z07 h [2] rfl ⟨rfl, trivial⟩ ⟨rfl, h.O.tail.tail.tail⟩
  | some x =>
  obtain ⟨L, st⟩ := x
  rw [hx] at hP hD
  obtain ⟨v, rfl, O2⟩ := hP
  simp only at hD
  refine ⟨_, rfl, _, O2, trivial, fun a h => ?_⟩
  refine gX h [] rfl fun a w h => ?_
  refine gC h rfl (pend st h.O) ?_
  rintro e w ⟨rfl, O2⟩
  refine ⟨_, rfl, _, O2, trivial, fun a h => ?_⟩
  by_cases h4 : st = ([], false)
  rotate_left
  · rw [if_neg h4] at h
    rw [if_neg fun q => h4 q.1] at hD
    subst hD
    refine gX h [.t, 3] rfl fun a w h => ?_
    exact rtG Z07 h [3] rfl ⟨rfl, trivial⟩ ⟨rfl, h.O.tail.tail.tail.tail⟩
  rw [if_pos h4] at h
  obtain ⟨hLl, hLx⟩ := pxt_bd n m s6 L st hx (by omega)
  refine gX h [.f, 2] rfl fun a w h => ?_
  obtain ⟨B, c, hv, -, -, -, hR⟩ := Z1d (enc := xC) (k := 2) (X := L) (fun _ => rfl) (by omega) (show World.ownsRow _ 0 _ _ _ _ (L.flatMap xC) from h.O.all.2.1)
  subst hv
  refine gE h rfl (pgoodE k n was is B c L w hR (by omega) (fun x hx => by have := hLx x hx; omega) h2) fun a w E h => ?_
  cases hgd : goodS k n was is L with
  | false =>
    rw [hgd] at h hD
    rw [if_neg (by simp)] at hD
    subst hD
    refine gX h [3] rfl fun a w h => ?_
    exact rtG Z07 h [3] rfl ⟨rfl, trivial⟩ ⟨rfl, h.O.tail.tail.tail.tail⟩
  | true =>
    rw [hgd] at h hD
    rw [if_pos ⟨h4, rfl⟩] at hD
    subst hD
    refine gX h [2, 3] rfl fun a w h => ?_
    exact rtG Z07 h [3] rfl ⟨rfl, trivial⟩ ⟨_, rfl, h.O.sub (.cons _ (.cons_cons _ (.cons _ (.cons _ (List.Sublist.refl _)))))⟩

theorem Z18 {st : List UInt8 × Bool} {k : Nat} (h : (getN st k).2.2 = false) : k ≤ st.1.length ∧ st.2 = false ∧ (getN st k).2.1.length = st.1.length - k := by
  unfold getN at h ⊢
  split at h
  · rename_i hk
    rw [if_pos hk]
    exact ⟨hk, h, by simp⟩
  · cases h
theorem Z15 {r : List UInt8} {k : Nat} (h : k ≤ r.length) : getN (r, false) k = (numL (r.take k), (r.drop k, false)) := by
  unfold getN
  rw [if_pos h]
theorem Z5s {st : List UInt8 × Bool} {k : Nat} (h : (takN st k).2.2 = false) : k ≤ st.1.length ∧ st.2 = false := by
  unfold takN at h
  split at h
  · rename_i hk
    exact ⟨hk, h⟩
  · cases h
theorem takN_yes {r : List UInt8} {k : Nat} (h : k ≤ r.length) : takN (r, false) k = (r.take k, (r.drop k, false)) := by
  unfold takN
  rw [if_pos h]
theorem Z6v (most : Nat) : ∀ (n : Nat) (st : List UInt8 × Bool) (L : List (Nat × ByteArray)) (z : List UInt8 × Bool), pxt most n st = some (L, z) → z.2 = false → st.2 = false
  | 0, st, L, z, h, hz => by simp only [pxt] at h; cases h; exact hz
  | n + 1, st, L, z, h, hz => by
    rw [pxt] at h
    split at h
    · cases h
    · split at h
      · rename_i L' z' hr
        cases h
        exact (Z18 (Z18 (Z5s (Z6v most n _ _ _ hr hz)).2).2.1).2.1
      · cases h
theorem Z5w (most : Nat) : ∀ (n : Nat) (r : List UInt8) (L : List (Nat × ByteArray)), pxt most n (r, false) = some (L, ([], false)) ↔ prs n r = some (L, []) ∧ ∀ x ∈ L, 16 ≤ x.2.size ∧ x.2.size / 16 ≤ most
  | 0, r, L => by
    simp only [pxt, prs, Option.some.injEq, Prod.mk.injEq, and_true]
    constructor
    · rintro ⟨rfl, rfl⟩; simp
    · rintro ⟨⟨rfl, rfl⟩, -⟩; simp
  | n + 1, r, L => by
    by_cases h8 : r.length < 8
    · constructor
      · intro h
        rw [pxt] at h
        split at h
        · cases h
        · split at h
          · rename_i L' z' hr
            cases h
            have h2 := (Z5s (Z6v most n _ _ _ hr rfl)).2
            have h3 := Z18 h2
            have h4 := Z18 h3.2.1
            simp only at h4
            omega
          · cases h
      · rintro ⟨h, -⟩
        rw [prs, if_pos h8] at h
        cases h
    have e1 : getN (r, false) 4 = (numL (r.take 4), (r.drop 4, false)) := Z15 (by omega)
    have e2 : getN (r.drop 4, false) 4 = (numL ((r.take 8).drop 4), (r.drop 8, false)) := by
      rw [Z15 (by rw [List.length_drop]; omega), List.drop_drop, Z2t]
    simp only [pxt, prs, if_neg h8, e1, e2]
    generalize numL ((r.take 8).drop 4) = k
    generalize numL (r.take 4) = a
    by_cases hk : (r.length - 8) / 16 < k
    · rw [if_pos hk]
      constructor
      · intro h
        split at h
        · cases h
        · split at h
          · rename_i L' z' hr
            cases h
            have h2 := (Z5s (Z6v most n _ _ _ hr rfl)).1
            simp only [List.length_drop] at h2
            omega
          · cases h
      · rintro ⟨h, -⟩
        cases h
    rw [if_neg hk, takN_yes (by rw [List.length_drop]; omega)]
    have hsz : (sB ((r.drop 8).take (16 * k))).size = 16 * k := by rw [Z00, List.length_take, List.length_drop]; omega
    simp only [List.drop_drop, Nat.mul_comm k 16]
    have ih := Z5w most n (r.drop (8 + 16 * k))
    by_cases hm : k < 1 ∨ most < k
    · rw [if_pos hm]
      constructor
      · intro h; cases h
      · rintro ⟨h, hx⟩
        split at h
        · cases h
          have := hx _ (List.mem_cons_self ..)
          rw [hsz] at this
          omega
        · cases h
    rw [if_neg hm]
    constructor
    · intro h
      split at h
      · rename_i L' z' hr
        cases h
        obtain ⟨h1, h2⟩ := (ih L').1 hr
        rw [h1]
        refine ⟨rfl, fun x hx => ?_⟩
        rcases List.mem_cons.1 hx with rfl | hx
        · rw [hsz]; omega
        · exact h2 x hx
      · cases h
    · rintro ⟨h, hx⟩
      split at h
      · rename_i L' z' hr
        cases h
        rw [(ih L').2 ⟨hr, fun x h => hx x (List.mem_cons_of_mem _ h)⟩]
      · cases h
theorem Z8b (most : Nat) : ∀ (n : Nat) (st : List UInt8 × Bool) (L : List (Nat × ByteArray)) (z : List UInt8 × Bool), pxt most n st = some (L, z) → L.length = n
  | 0, st, L, z, h => by simp only [pxt] at h; cases h; rfl
  | n + 1, st, L, z, h => by
    rw [pxt] at h
    split at h
    · cases h
    · split at h
      · rename_i L' z' hr
        cases h
        simp [Z8b most n _ _ _ hr]
      · cases h
theorem Z1z {L : List (Nat × ByteArray)} {n : Nat} (hg : goodX L = true) (hf : fitsX L n) : L.length ≤ n := by
  have h2 := (by unfold goodX at hg; simpa using hg : ∀ i, i < L.length → okX L i)
  have h3 : ∀ i, i < L.length → i ≤ atX L i := by
    intro i
    induction i with
    | zero => intro _; omega
    | succ i ih =>
      intro hi
      have h4 := ih (by omega)
      have h5 := h2 (i + 1) hi
      have h6 := h2 i (by omega)
      unfold okX at h5 h6
      rw [show i + 1 - 1 = i by omega] at h5
      omega
  by_cases h0 : L.length = 0
  · omega
  have h4 := h3 (L.length - 1) (by omega)
  have h5 := h2 (L.length - 1) (by omega)
  have h6 := hf (L.length - 1) (by omega)
  unfold okX at h5
  omega
theorem Z0d (l : List UInt8) : prdS l = rdS l := by
  unfold prdS rdS
  generalize opn l = o
  obtain ⟨t, ok⟩ := o
  unfold prdO
  simp only
  cases ok with
  | false => simp
  | true =>
  simp only [true_and]
  by_cases h18 : 18 ≤ t.length
  rotate_left
  · conv => { rhs; rw [if_neg (fun h => h18 h.1)] }
    split
    · split
      · rename_i L st hx
        rw [if_neg]
        rintro ⟨rfl, -⟩
        have q6 := Z18 (Z6v _ _ _ _ _ hx rfl)
        have q5 := Z18 q6.2.1
        have q4 := Z18 q5.2.1
        have q3 := Z18 q4.2.1
        have q2 := Z18 q3.2.1
        have q1 := Z18 q2.2.1
        simp only at q1 q2 q3 q4 q5 q6
        omega
      · rfl
    · rfl
  have e1 : getN (t, false) 1 = ((t[0]?.getD 0).toNat, (t.drop 1, false)) := by
    rw [Z15 (by omega)]
    rcases t with _ | ⟨b, t⟩
    · simp at h18
    · simp [numL]
  have e2 : getN (t.drop 1, false) 1 = ((t[1]?.getD 0).toNat, (t.drop 2, false)) := by
    rw [Z15 (by rw [List.length_drop]; omega), List.drop_drop]
    rcases t with _ | ⟨b, _ | ⟨c, t⟩⟩
    · simp at h18
    · simp at h18
    · simp [numL]
  have e3 : getN (t.drop 2, false) 4 = (numL ((t.take 6).drop 2), (t.drop 6, false)) := by
    rw [Z15 (by rw [List.length_drop]; omega), List.drop_drop, Z2t]
  have e4 : getN (t.drop 6, false) 4 = (numL ((t.take 10).drop 6), (t.drop 10, false)) := by
    rw [Z15 (by rw [List.length_drop]; omega), List.drop_drop, Z2t]
  have e5 : getN (t.drop 10, false) 4 = (numL ((t.take 14).drop 10), (t.drop 14, false)) := by
    rw [Z15 (by rw [List.length_drop]; omega), List.drop_drop, Z2t]
  have e6 : getN (t.drop 14, false) 4 = (numL ((t.take 18).drop 14), (t.drop 18, false)) := by
    rw [Z15 (by rw [List.length_drop]; omega), List.drop_drop, Z2t]
  simp only [e1, e2, e3, e4, e5, e6]
  have h83 : (t[0]?.getD 0).toNat = 83 ↔ t[0]?.getD 0 = 83 := by
    rw [← UInt8.toNat_inj]
    rfl
  simp only [h83]
  generalize (t[1]?.getD 0).toNat = k
  generalize numL ((t.take 6).drop 2) = n
  generalize numL ((t.take 10).drop 6) = was
  generalize numL ((t.take 14).drop 10) = is
  generalize numL ((t.take 18).drop 14) = m
  by_cases h1 : t[0]?.getD 0 = 83
  rotate_left
  · rw [if_neg (fun h => h1 h.1), if_neg (fun h => h1 h.2)]
  rw [if_pos (⟨h18, h1⟩ : 18 ≤ t.length ∧ t[0]?.getD 0 = 83)]
  by_cases hR : ∃ L, prs m (t.drop 18) = some (L, []) ∧ goodS k n was is L = true
  · obtain ⟨L, hp, hg⟩ := hR
    have hG : GoodS k n was is L := by simpa [goodS] using hg
    have hin := Z62 hG.2.2.1 hG.2.2.2.1
    have hle := Z1z hG.2.2.1 hG.2.2.2.1
    have hpx := (Z5w n m (t.drop 18) L).2 ⟨hp, fun x hx => by have := hin x hx; omega⟩
    have hlm : L.length = m := by
      have := Z8b n m _ _ _ hpx
      exact this
    rw [if_pos ⟨h1, hG.2.1, by omega⟩, hpx, hp]
    simp only [hg, if_true, and_self]
  · have hr : (match prs m (t.drop 18) with
      | some (L, []) => if goodS k n was is L = true then some (k, n, was, is, L) else none
      | _ => none) = none := by
      split
      · rename_i L hp
        rw [if_neg fun hg => hR ⟨L, hp, hg⟩]
      · rfl
    refine Eq.trans ?_ hr.symm
    split
    · split
      · rename_i L st hx
        rw [if_neg]
        rintro ⟨rfl, hg⟩
        exact hR ⟨L, ((Z5w n m _ L).1 hx).1, hg⟩
      · rfl
    · rfl
end Go.Proofs.Ytbfgacmfjfbooaa
