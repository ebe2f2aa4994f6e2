/- The walks of package head: Bytes. -/
import Derived.Test.YtencbdcfcpohaaaHead
import Derived.Test.YtencbdcfcpohaaaWs
namespace Go.Proofs.Ytencbdcfcpohaaa
set_option linter.unusedVariables false
set_option linter.unusedSimpArgs false
open Go.RowKit

/-- A head's bytes without their sum. -/
def headL (g r a b c : Nat) : List UInt8 := [] ++ le 84 1 ++ le c 1 ++ le a 2 ++ le b 2 ++ le g 4 ++ le r 2
theorem headL_length (g r a b c : Nat) : (headL g r a b c).length = 12 := by simp [headL, le_length]

set_option maxHeartbeats 1000000 in
theorem hbytes_no (g r a b c : Int) (w : World) (h : ¬ HeadOk g r a b c) :
    Calls Try.prog 7 #[headV g r a b c] w fun e w' => e = .returned (.tuple #[.string ⟨#[]⟩, .int .i64 1]) ∧ Below w.heap.size w w' := by
  have H := Lib.hid (fun W => hgood_no g r a b c W h)
  clear h
  go_enter Try.func7, Try.ntmps7
  go_wp2_with fail
  refine (H.out _).mono ?_
  rintro e w1 ⟨rfl, hw1⟩; obtain ⟨hcw1, hfw1⟩ := bcell hw1; have hsw1 := hw1.size; (try simp at hsw1)
  go_wp2_with fail
  go_ret2
  exact ⟨rfl, Below.trans (by (repeat (first | with_reducible exact Below.refl _ _ | with_reducible assumption | with_reducible apply Below.drew | with_reducible apply below_drewN | (with_reducible refine below_set ?_ ?_; focus ((try simp); (try omega); done)) | (with_reducible refine below_new ?_ ?_; focus ((try simp); (try omega); done))))) (hw1.mono (by simp))⟩

set_option maxHeartbeats 1000000 in
theorem hbytes_yes (g r a b c : Nat) (w : World) (h : HeadOk g r a b c) :
    Calls Try.prog 7 #[headV g r a b c] w fun e w' => e = .returned (.tuple #[.string ⟨(sealL (headL g r a b c)).toArray⟩, .int .i64 0]) ∧ Below w.heap.size w w' := by
  have H := Lib.hid (fun W => hgood_yes g r a b c W h)
  obtain ⟨a1, a2, b1, b2, g1, g2, r1, r2, c1, c2⟩ := h
  have i0 := idx0 a b
  have i1 := idx1 a b
  go_enter Try.func7, Try.ntmps7
  go_wp2_with fail
  refine (H.out _).mono ?_
  rintro e w1 ⟨rfl, hw1⟩
  have hA : Blk w1 w.heap.size 25 #[.int .u64 g, .int .i64 r, .int .i64 a, .int .i64 b, .int .i64 c] := (Blk.new w 25 _).below hw1 (by simp)
  have hz : w.heap.size < w1.heap.size := hA.lt
  have hb0 : Below w.heap.size w w1 := Below.trans (by (repeat (first | with_reducible exact Below.refl _ _ | with_reducible assumption | with_reducible apply Below.drew | with_reducible apply below_drewN | (with_reducible refine below_set ?_ ?_; focus ((try simp); (try omega); done)) | (with_reducible refine below_new ?_ ?_; focus ((try simp); (try omega); done))))) (hw1.mono (by simp))
  have S0 : Ws w1 w1.heap.size [] (w1.alloc (.cells #[.pointer none, .slice none 0 0] 51)) := Ws.new_ rfl
  have k4 := (S0.blk hA hz).cell 4
  have Hw1 := Lib.hid hb0
  clear hw1 H hb0
  go_wp2_with fail
  refine (ws_put S0 84 1 1 (by decide) (by decide) (by simp)).mono ?_
  rintro e w2 ⟨rfl, S1⟩
  clear k4 S0
  have k4 := (S1.blk hA hz).cell 4
  go_wp2_with fail
  refine (ws_put S1 c 1 1 (by decide) (by omega) (by simp [le_length])).mono ?_
  rintro e w3 ⟨rfl, S2⟩
  clear k4 S1
  have k2 := (S2.blk hA hz).cell 2
  have k3 := (S2.blk hA hz).cell 3
  go_wp2_with fail
  go_loopw [6, 17] (fun _ i wr => (i = .int .i64 0 ∧ Ws w1 w1.heap.size ([] ++ le 84 1 ++ le c 1) wr) ∨ (i = .int .i64 1 ∧ Ws w1 w1.heap.size ([] ++ le 84 1 ++ le c 1 ++ le a 2) wr) ∨ (i = .int .i64 2 ∧ Ws w1 w1.heap.size ([] ++ le 84 1 ++ le c 1 ++ le a 2 ++ le b 2) wr)) (fun _ i _ => 2 - (intOf i).toNat)
  case atStart => exact .inl ⟨rfl, S2⟩
  case round =>
    clear k2 k3 S2
    rcases hrel with ⟨rfl, S⟩ | ⟨rfl, S⟩ | ⟨rfl, S⟩
    · go_wp2_with fail
      refine (ws_put S a 2 2 (by decide) (by omega) (by simp [le_length])).mono ?_
      rintro e w4 ⟨rfl, S3⟩
      clear S
      go_wp2_with fail
      go_roundw
      case rel => exact .inr (.inl ⟨rfl, S3⟩)
      case measure => simp [intOf]
    · go_wp2_with fail
      refine (ws_put S b 2 2 (by decide) (by omega) (by simp [le_length])).mono ?_
      rintro e w4 ⟨rfl, S3⟩
      clear S
      go_wp2_with fail
      go_roundw
      case rel => exact .inr (.inr ⟨rfl, S3⟩)
      case measure => simp [intOf]
    · have k0 := (S.blk hA hz).cell 0
      go_wp2_with fail
      refine (ws_put S g 4 4 (by decide) (by omega) (by simp [le_length])).mono ?_
      rintro e w4 ⟨rfl, S4⟩
      clear S k0
      have k1 := (S4.blk hA hz).cell 1
      go_wp2_with fail
      refine (ws_put S4 r 2 2 (by decide) (by omega) (by simp [le_length])).mono ?_
      rintro e w5 ⟨rfl, S5⟩
      clear S4 k1
      have hl := headL_length g r a b c
      have hS : Ws w1 w1.heap.size (headL g r a b c) w5 := S5
      clear S5
      generalize hLL : headL g r a b c = L at hl hS ⊢
      have HLL := Lib.hid hLL
      clear hLL
      go_wp2_with fail
      refine (ws_string hS (by intro e; rw [e] at hl; simp at hl)).mono ?_
      rintro e w6 ⟨rfl, S6⟩
      clear hS
      have hb6 : Below w.heap.size w w6 := Hw1.out.trans (S6.below_.mono (by omega))
      have HL := Lib.hid hb6
      clear S6 hb6
      go_wp2_with fail
      refine (seal_any ⟨L.toArray⟩ _ (by show L.toArray.size ≤ _; rw [List.size_toArray, hl]; decide)).mono ?_
      rintro e w7 ⟨rfl, hb7⟩
      go_wp2_with fail
      go_ret2
      exact ⟨by rw [HLL.out]; rfl, below_then HL.out hb7⟩
end Go.Proofs.Ytencbdcfcpohaaa
