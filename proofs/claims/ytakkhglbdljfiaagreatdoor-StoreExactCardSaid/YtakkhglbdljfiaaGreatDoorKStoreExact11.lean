/- tierceref05: Bytes. -/
import Derived.Test.YtakkhglbdljfiaaGreatDoorKStoreExact10
import Derived.Test.YtakkhglbdljfiaaGreatDoorKStoreExact08
namespace Go.Proofs.YtakkhglbdljfiaaGreatDoor
attribute [local simp] BigFrame.eval_const BigFrame.eval_global BigFrame.eval_func
set_option linter.unusedVariables false
set_option linter.unusedSimpArgs false
open Go.RowKit

end Go.Proofs.YtakkhglbdljfiaaGreatDoor

/- The walk of tierceref01.Number. -/
namespace Go.Proofs.YtakkhglbdljfiaaGreatDoor
set_option linter.unusedVariables false
set_option linter.unusedSimpArgs false
open Go.RowKit

end Go.Proofs.YtakkhglbdljfiaaGreatDoor

/- tierceref05: Read. -/
namespace Go.Proofs.YtakkhglbdljfiaaGreatDoor
attribute [local simp] BigFrame.eval_const BigFrame.eval_global BigFrame.eval_func
set_option linter.unusedVariables false
set_option linter.unusedSimpArgs false
open Go.RowKit

end Go.Proofs.YtakkhglbdljfiaaGreatDoor

/- leaf: Read of any text, the reference's too; what was written is read as it was; plain. -/
namespace Go.Proofs.YtakkhglbdljfiaaGreatDoor
set_option linter.unusedVariables false
set_option linter.unusedSimpArgs false
open Go.RowKit

theorem readC_eq (l : List UInt8) (hl : l.length = 256) (ho : sealL (l.take 252) = l) : readC l = readB l := (page_is l hl ho).symm
theorem Z7q (s : ByteArray) (w : World) (hs : s.size ≤ 1000000) (bs : List UInt8) (hbs : s.data.toList = bs) :
    Calls Tryz.prog 61 #[.string s] w fun e w' => Ext w w' ∧ (readB bs = false → e = .returned (.tuple #[.agg #[.int .i64 0, .slice none 0 0], .int .i64 3])) ∧
      (readB bs = true → ∃ B cap, e = .returned (.tuple #[.agg #[.int .i64 (lvAt bs : Nat), .slice B (cntAt bs) cap], .int .i64 0]) ∧ cntAt bs ≤ cap ∧ cap ≤ maxLen ∧ Row w' B 2 pairC (pairsAt bs (cntAt bs))) := by
  subst hbs
  have hlen : s.data.toList.length = s.size := by simp
  have shut : readB s.data.toList = false → ((∀ W : World, Calls Tryz.prog 95 #[.string s] W fun e w' => e = .returned (.tuple #[.string ⟨#[]⟩, .bool false]) ∧ Ext W w') ∨ (s.size ≠ 256 ∧ ∃ T, ∀ W : World, Calls Tryz.prog 95 #[.string s] W fun e w' => e = .returned (.tuple #[.string T, .bool true]) ∧ Ext W w')) →
      Calls Tryz.prog 61 #[.string s] w fun e w' => Ext w w' ∧ (readB s.data.toList = false → e = .returned (.tuple #[.agg #[.int .i64 0, .slice none 0 0], .int .i64 3])) ∧
      (readB s.data.toList = true → ∃ B cap, e = .returned (.tuple #[.agg #[.int .i64 (lvAt s.data.toList : Nat), .slice B (cntAt s.data.toList) cap], .int .i64 0]) ∧ cntAt s.data.toList ≤ cap ∧ cap ≤ maxLen ∧ Row w' B 2 pairC (pairsAt s.data.toList (cntAt s.data.toList))) := fun hb h => by
    refine (lread_shut s w h).mono ?_
    rintro e w' ⟨rfl, R⟩
    exact ⟨R, fun _ => rfl, fun h => by rw [hb] at h; cases h⟩
  by_cases h4 : s.size < 4
  · exact shut (Z3b _ (fun h => by omega)) (.inl fun W => Z67 s W h4)
  · by_cases ho : sealL (s.data.toList.take (s.size - 4)) = s.data.toList
    · have hO := fun W => open_yes s W (by omega) (by omega) ho
      by_cases h256 : s.size = 256
      · rw [h256] at ho hO
        have := lread_open s _ w hO h256 s.data.toList (by omega) rfl
        rw [readC_eq _ (by omega) ho] at this
        exact this
      · exact shut (Z3b _ (fun h => by omega)) (.inr ⟨h256, _, hO⟩)
    · refine shut (Z3b _ (fun h => ?_)) (.inl fun W => open_no s W (by omega) (by omega) ho)
      rw [show s.size = 256 by omega] at ho
      exact ho h.2
theorem Z64 : ∀ (xs ys : List (Nat × Nat)), xs.length = ys.length → (∀ x ∈ xs, x.1 < 18446744073709551616 ∧ x.2 < 18446744073709551616) → (∀ x ∈ ys, x.1 < 18446744073709551616 ∧ x.2 < 18446744073709551616) → pairsL xs = pairsL ys → xs = ys
  | [], [], _, _, _, _ => rfl
  | [], _ :: _, h, _, _, _ => by simp at h
  | _ :: _, [], h, _, _, _ => by simp at h
  | x :: xs, y :: ys, h, hx, hy, he => by
    unfold pairsL at he
    obtain ⟨h1, h2⟩ := List.append_inj he (by simp [Z0i])
    obtain ⟨h3, h4⟩ := List.append_inj h2 (by simp [Z0i])
    have e1 := congrArg numL h1
    have e2 := congrArg numL h3
    have bx := hx x (by simp)
    have bY := hy y (by simp)
    have p8 : (256 : Nat) ^ 8 = 18446744073709551616 := by decide
    rw [Z2e _ _ (by omega), Z2e _ _ (by omega)] at e1 e2
    rw [Prod.ext e1 e2, Z64 xs ys (by simpa using h) (fun z hz => hx z (by simp [hz])) (fun z hz => hy z (by simp [hz])) h4]
/-- What was written is read as it was. -/
theorem Z7i (lv : Nat) (xs : List (Nat × Nat)) (hg : goodB lv xs = true) (hx : ∀ x ∈ xs, x.1 < 18446744073709551616 ∧ x.2 < 18446744073709551616) (l : List UInt8) (hl : sealL (leafL lv xs) = l) :
    lvAt l = lv ∧ cntAt l = xs.length ∧ pairsAt l (cntAt l) = xs ∧ readB l = true := by
  have hgg := (Z5f lv xs).1 hg
  have h15 : xs.length ≤ 15 := hgg.1.2.2
  have h8 : lv < 8 := by omega
  have hlen : l.length = 256 := by rw [← hl]; exact Z6m lv xs h15
  have hform : ∃ R, l = [76, UInt8.ofNat lv, UInt8.ofNat xs.length, 0] ++ (pairsL xs ++ R) := by
    rw [← hl]
    unfold sealL
    rw [Z6v]
    refine ⟨List.replicate (248 - 16 * xs.length) 0 ++ le (crcSum (hdL lv xs.length ++ pairsL xs ++ List.replicate (248 - 16 * xs.length) 0)) 4, ?_⟩
    have : hdL lv xs.length = [76, UInt8.ofNat lv, UInt8.ofNat xs.length, 0] := by simp [hdL, le]
    rw [this]
    simp
  obtain ⟨R, hR⟩ := hform
  have e1 : lvAt l = lv := by
    unfold lvAt
    rw [hR]
    simp
    omega
  have e2 : cntAt l = xs.length := by
    unfold cntAt
    rw [hR]
    simp
    omega
  have e3 : pairsAt l (cntAt l) = xs := by
    refine Z64 _ _ (by rw [Z18, e2]) (Z65 l _) hx ?_
    rw [Z63 l _ (by rw [e2, hlen]; omega), e2, hR]
    show ((pairsL xs ++ R).take (16 * xs.length)) = pairsL xs
    exact List.take_left' (by rw [Z1m])
  refine ⟨e1, e2, e3, ?_⟩
  unfold readB
  rw [e3, e1, decide_eq_true hlen, hg, decide_eq_true hl]
  rfl
/-- Whether a head can be. -/
abbrev HeadOk (g r a b c : Int) : Prop := 1 ≤ a ∧ a ≤ 256 ∧ 1 ≤ b ∧ b ≤ 256 ∧ 1 ≤ g ∧ g ≤ 4294967295 ∧ 0 ≤ r ∧ r < 512 ∧ 1 ≤ c ∧ c ≤ 8
abbrev headV (g r a b c : Int) : Value := .agg #[.int .u64 g, .int .i64 r, .int .i64 a, .int .i64 b, .int .i64 c]

theorem idx0 (a b : Int) : ∀ w, (Instr.index 33 (.agg #[.int .i64 a, .int .i64 b]) (.int .i64 0)).run Tryz.prog w = .ok (.int .i64 a) w := fun _ => by kernel_rfl
theorem idx1 (a b : Int) : ∀ w, (Instr.index 33 (.agg #[.int .i64 a, .int .i64 b]) (.int .i64 1)).run Tryz.prog w = .ok (.int .i64 b) w := fun _ => by kernel_rfl

set_option maxHeartbeats 1000000 in
theorem Z7s (g r a b c : Int) (w : World) :
    Calls Tryz.prog 74 #[headV g r a b c] w fun e w' => e = .returned (.bool (decide (HeadOk g r a b c))) ∧ Below w.heap.size w w' := by
  have i0 := idx0 a b
  have i1 := idx1 a b
  go_enter Tryz.func74, Tryz.ntmps74
  by_cases ha : 1 ≤ a ∧ a ≤ 256
  · obtain ⟨ha1, ha2⟩ := ha
    go_wp2_with fail
    go_loop [4, 7] (fun _ i => ∃ j : Nat, j ≤ 2 ∧ i = .int .i64 j ∧ (j = 2 → 1 ≤ b ∧ b ≤ 256)) (fun _ i => 2 - (intOf i).toNat)
    case atStart => exact ⟨0, by omega, rfl, by omega⟩
    case round =>
      obtain ⟨j, hj, rfl, hb⟩ := hrel
      rcases (show j = 0 ∨ j = 1 ∨ j = 2 by omega) with rfl | rfl | rfl
      · clear hb
        go_wp2_with fail
        go_round
        case rel => exact ⟨1, by omega, rfl, by omega⟩
        case measure => simp [intOf]
      · clear hb
        by_cases hb : 1 ≤ b ∧ b ≤ 256
        · obtain ⟨hb1, hb2⟩ := hb
          go_wp2_with fail
          go_round
          case rel => exact ⟨2, by omega, rfl, by omega⟩
          case measure => simp [intOf]
        · by_cases hb1 : b < 1
          · go_wp2
            go_ret
            exact ⟨Z13 (by simp; omega), by (repeat (first | with_reducible exact Below.refl _ _ | with_reducible assumption | with_reducible apply Below.drew | with_reducible apply Z0g | (with_reducible refine Z0n ?_ ?_; focus ((try simp); (try omega); done)) | (with_reducible refine Z0o ?_ ?_; focus ((try simp); (try omega); done))))⟩
          · have hb2 : 256 < b := by omega
            go_wp2
            go_ret
            exact ⟨Z13 (by simp; omega), by (repeat (first | with_reducible exact Below.refl _ _ | with_reducible assumption | with_reducible apply Below.drew | with_reducible apply Z0g | (with_reducible refine Z0n ?_ ?_; focus ((try simp); (try omega); done)) | (with_reducible refine Z0o ?_ ?_; focus ((try simp); (try omega); done))))⟩
      · obtain ⟨hb1, hb2⟩ := hb rfl
        clear hb
        go_wp2
        all_goals
          go_ret
          refine ⟨Z13 ?_, by (repeat (first | with_reducible exact Below.refl _ _ | with_reducible assumption | with_reducible apply Below.drew | with_reducible apply Z0g | (with_reducible refine Z0n ?_ ?_; focus ((try simp); (try omega); done)) | (with_reducible refine Z0o ?_ ?_; focus ((try simp); (try omega); done))))⟩
          rw [Bool.eq_iff_iff]
          try simp
          try omega
  · go_wp2_with fail
    by_cases ha1 : a < 1
    · go_loop [4, 7] (fun _ i => i = .int .i64 0) (fun _ _ => 0)
      case atStart => rfl
      case round =>
        subst hrel
        go_wp2
        go_ret
        exact ⟨Z13 (by simp; omega), by (repeat (first | with_reducible exact Below.refl _ _ | with_reducible assumption | with_reducible apply Below.drew | with_reducible apply Z0g | (with_reducible refine Z0n ?_ ?_; focus ((try simp); (try omega); done)) | (with_reducible refine Z0o ?_ ?_; focus ((try simp); (try omega); done))))⟩
    · have ha2 : 256 < a := by omega
      go_loop [4, 7] (fun _ i => i = .int .i64 0) (fun _ _ => 0)
      case atStart => rfl
      case round =>
        subst hrel
        go_wp2
        go_ret
        exact ⟨Z13 (by simp; omega), by (repeat (first | with_reducible exact Below.refl _ _ | with_reducible assumption | with_reducible apply Below.drew | with_reducible apply Z0g | (with_reducible refine Z0n ?_ ?_; focus ((try simp); (try omega); done)) | (with_reducible refine Z0o ?_ ?_; focus ((try simp); (try omega); done))))⟩
theorem Z7r (g r a b c : Int) (w : World) (h : HeadOk g r a b c) :
    Calls Tryz.prog 74 #[headV g r a b c] w fun e w' => e = .returned (.bool true) ∧ Below w.heap.size w w' :=
  (Z7s g r a b c w).mono fun _ _ ⟨he, hb⟩ => ⟨by rw [he]; exact Z13 (decide_eq_true h), hb⟩
theorem hgood_no (g r a b c : Int) (w : World) (h : ¬ HeadOk g r a b c) :
    Calls Tryz.prog 74 #[headV g r a b c] w fun e w' => e = .returned (.bool false) ∧ Below w.heap.size w w' :=
  (Z7s g r a b c w).mono fun _ _ ⟨he, hb⟩ => ⟨by rw [he]; exact Z13 (decide_eq_false h), hb⟩

set_option maxHeartbeats 1000000 in
theorem Z61 (g r a b c : Int) (w : World) :
    Calls Tryz.prog 38 #[headV g r a b c] w fun e w' => e = .returned (.bool (decide (HeadOk g r a b c))) ∧ Below w.heap.size w w' := by
  go_enter Tryz.func38, Tryz.ntmps38
  go_wp2
  all_goals
    go_ret
    refine ⟨Z13 ?_, by (repeat (first | with_reducible exact Below.refl _ _ | with_reducible assumption | with_reducible apply Below.drew | with_reducible apply Z0g | (with_reducible refine Z0n ?_ ?_; focus ((try simp); (try omega); done)) | (with_reducible refine Z0o ?_ ?_; focus ((try simp); (try omega); done))))⟩
    rw [Bool.eq_iff_iff]
    simp
    try omega
theorem Z40 (g r a b c : Int) (w : World) (h : HeadOk g r a b c) :
    Calls Tryz.prog 38 #[headV g r a b c] w fun e w' => e = .returned (.bool true) ∧ Below w.heap.size w w' :=
  (Z61 g r a b c w).mono fun _ _ ⟨he, hb⟩ => ⟨by rw [he]; exact Z13 (decide_eq_true h), hb⟩
theorem rhgood_no (g r a b c : Int) (w : World) (h : ¬ HeadOk g r a b c) :
    Calls Tryz.prog 38 #[headV g r a b c] w fun e w' => e = .returned (.bool false) ∧ Below w.heap.size w w' :=
  (Z61 g r a b c w).mono fun _ _ ⟨he, hb⟩ => ⟨by rw [he]; exact Z13 (decide_eq_false h), hb⟩

/-- A head's bytes without their sum. -/
def headL (g r a b c : Nat) : List UInt8 := [] ++ le 84 1 ++ le c 1 ++ le a 2 ++ le b 2 ++ le g 4 ++ le r 2
theorem Z28 (g r a b c : Nat) : (headL g r a b c).length = 12 := by simp [headL, Z0i]

set_option maxHeartbeats 1000000 in
theorem hbytes_no (g r a b c : Int) (w : World) (h : ¬ HeadOk g r a b c) :
    Calls Tryz.prog 42 #[headV g r a b c] w fun e w' => e = .returned (.tuple #[.string ⟨#[]⟩, .int .i64 1]) ∧ Below w.heap.size w w' := by
  have H := Lib.hid (fun W => hgood_no g r a b c W h)
  clear h
  go_enter Tryz.func42, Tryz.ntmps42
  go_wp2_with fail
  refine (H.out _).mono ?_
  rintro e w1 ⟨rfl, hw1⟩; obtain ⟨hcw1, hfw1⟩ := bcell hw1; have hsw1 := hw1.size; (try simp at hsw1)
  go_wp2_with fail
  go_ret2
  exact ⟨rfl, Below.trans (by (repeat (first | with_reducible exact Below.refl _ _ | with_reducible assumption | with_reducible apply Below.drew | with_reducible apply Z0g | (with_reducible refine Z0n ?_ ?_; focus ((try simp); (try omega); done)) | (with_reducible refine Z0o ?_ ?_; focus ((try simp); (try omega); done))))) (hw1.mono (by simp))⟩

set_option maxHeartbeats 1000000 in
theorem hbytes_yes (g r a b c : Nat) (w : World) (h : HeadOk g r a b c) :
    Calls Tryz.prog 42 #[headV g r a b c] w fun e w' => e = .returned (.tuple #[.string ⟨(sealL (headL g r a b c)).toArray⟩, .int .i64 0]) ∧ Below w.heap.size w w' := by
  have H := Lib.hid (fun W => Z7r g r a b c W h)
  obtain ⟨a1, a2, b1, b2, g1, g2, r1, r2, c1, c2⟩ := h
  have i0 := idx0 a b
  have i1 := idx1 a b
  go_enter Tryz.func42, Tryz.ntmps42
  go_wp2_with fail
  refine (H.out _).mono ?_
  rintro e w1 ⟨rfl, hw1⟩
  have hA : Blk w1 w.heap.size 39 #[.int .u64 g, .int .i64 r, .int .i64 a, .int .i64 b, .int .i64 c] := (Blk.new w 39 _).below hw1 (by simp)
  have hz : w.heap.size < w1.heap.size := hA.lt
  have hb0 : Below w.heap.size w w1 := Below.trans (by (repeat (first | with_reducible exact Below.refl _ _ | with_reducible assumption | with_reducible apply Below.drew | with_reducible apply Z0g | (with_reducible refine Z0n ?_ ?_; focus ((try simp); (try omega); done)) | (with_reducible refine Z0o ?_ ?_; focus ((try simp); (try omega); done))))) (hw1.mono (by simp))
  have S0 : Ws w1 w1.heap.size [] (w1.alloc (.cells #[.pointer none, .slice none 0 0] 132)) := Ws.new_ rfl
  have k4 := (S0.blk hA hz).cell 4
  have Hw1 := Lib.hid hb0
  clear hw1 H hb0
  go_wp2_with fail
  refine (Z5r S0 84 1 1 (by decide) (by decide) (by simp)).mono ?_
  rintro e w2 ⟨rfl, S1⟩
  clear k4 S0
  have k4 := (S1.blk hA hz).cell 4
  go_wp2_with fail
  refine (Z5r S1 c 1 1 (by decide) (by omega) (by simp [Z0i])).mono ?_
  rintro e w3 ⟨rfl, S2⟩
  clear k4 S1
  have k2 := (S2.blk hA hz).cell 2
  have k3 := (S2.blk hA hz).cell 3
  go_wp2_with fail
  go_loopw [6, 17] (fun _ i wr => (i = .int .i64 0 ∧ Ws w1 w1.heap.size ([] ++ le 84 1 ++ le c 1) wr) ∨ (i = .int .i64 1 ∧ Ws w1 w1.heap.size ([] ++ le 84 1 ++ le c 1 ++ le a 2) wr) ∨ (i = .int .i64 2 ∧ Ws w1 w1.heap.size ([] ++ le 84 1 ++ le c 1 ++ le a 2 ++ le b 2) wr)) (fun _ i _ => 2 - (intOf i).toNat)
  case atStart => exact .inl ⟨rfl, S2⟩
  case round =>
    clear k2 k3 S2
    rcases hrel with ⟨rfl, S⟩ | ⟨rfl, S⟩ | ⟨rfl, S⟩
    · go_wp2_with fail
      refine (Z5r S a 2 2 (by decide) (by omega) (by simp [Z0i])).mono ?_
      rintro e w4 ⟨rfl, S3⟩
      clear S
      go_wp2_with fail
      go_roundw
      case rel => exact .inr (.inl ⟨rfl, S3⟩)
      case measure => simp [intOf]
    · go_wp2_with fail
      refine (Z5r S b 2 2 (by decide) (by omega) (by simp [Z0i])).mono ?_
      rintro e w4 ⟨rfl, S3⟩
      clear S
      go_wp2_with fail
      go_roundw
      case rel => exact .inr (.inr ⟨rfl, S3⟩)
      case measure => simp [intOf]
    · have k0 := (S.blk hA hz).cell 0
      go_wp2_with fail
      refine (Z5r S g 4 4 (by decide) (by omega) (by simp [Z0i])).mono ?_
      rintro e w4 ⟨rfl, S4⟩
      clear S k0
      have k1 := (S4.blk hA hz).cell 1
      go_wp2_with fail
      refine (Z5r S4 r 2 2 (by decide) (by omega) (by simp [Z0i])).mono ?_
      rintro e w5 ⟨rfl, S5⟩
      clear S4 k1
      have hl := Z28 g r a b c
      have hS : Ws w1 w1.heap.size (headL g r a b c) w5 := S5
      clear S5
      generalize hLL : headL g r a b c = L at hl hS ⊢
      have HLL := Lib.hid hLL
      clear hLL
      go_wp2_with fail
      refine (ws_string hS (by intro e; rw [e] at hl; simp at hl)).mono ?_
      rintro e w6 ⟨rfl, S6⟩
      clear hS
      have hb6 : Below w.heap.size w w6 := Hw1.out.trans (S6.below_.mono (by omega))
      have HL := Lib.hid hb6
      clear S6 hb6
      go_wp2_with fail
      refine (Z6n ⟨L.toArray⟩ _ (by show L.toArray.size ≤ _; rw [List.size_toArray, hl]; decide)).mono ?_
      rintro e w7 ⟨rfl, hb7⟩
      go_wp2_with fail
      go_ret2
      exact ⟨by rw [HLL.out]; rfl, below_then HL.out hb7⟩
end Go.Proofs.YtakkhglbdljfiaaGreatDoor

/- The walk of tierceref01.Number. -/
