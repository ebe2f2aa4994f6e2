/- The walk of CastleExact: it returns true and turns nothing that was there. -/
import Derived.Test.YtkeloklncjfddaaCastleRef
import Derived.Test.YtkeloklncjfddaaFit
namespace Go.Proofs.Ytkeloklncjfddaa
set_option linter.unusedVariables false
set_option linter.unusedSimpArgs false
open Go.RowKit Go.ChangeShapes Go.WideShapes Go.ChangeAt

theorem num_sum : crcSum [49, 50, 51, 52, 53, 54, 55, 56, 57] = 3808858755 := by decide +kernel
theorem num_sum0 : crcSum [] = 0 := by decide +kernel
theorem num_seal0 : sealL [] = [0, 0, 0, 0] := by decide +kernel

set_option maxHeartbeats 1000000 in
theorem awake2 (w : World) : Calls Try.prog 46 #[] w fun e w' => e = .returned (.bool true) ∧ Below w.heap.size w w' := by
  have P1 := fun W => open_short ⟨#[97, 98, 99]⟩ W (by decide)
  have P2 := fun W => sum_any ⟨#[49, 50, 51, 52, 53, 54, 55, 56, 57]⟩ W (by decide)
  have P3 := fun W => sum_any ⟨#[]⟩ W (by decide)
  have P4 := fun W => seal_any ⟨#[]⟩ W (by decide)
  rw [show crcSum (⟨#[49, 50, 51, 52, 53, 54, 55, 56, 57]⟩ : ByteArray).data.toList = 3808858755 from num_sum] at P2
  rw [show crcSum (⟨#[]⟩ : ByteArray).data.toList = 0 from num_sum0] at P3
  rw [show sealL (⟨#[]⟩ : ByteArray).data.toList = [0, 0, 0, 0] from num_seal0] at P4
  have H1 := Lib.hid P1
  have H2 := Lib.hid P2
  have H3 := Lib.hid P3
  have H4 := Lib.hid P4
  clear P1 P2 P3 P4
  go_enter Try.func46, Try.ntmps46
  go_wp2_with fail
  refine (H1.out _).mono ?_
  rintro e w1 ⟨rfl, hb1⟩
  go_wp2_with fail
  refine (H2.out _).mono ?_
  rintro e w2 ⟨rfl, hb2⟩
  go_wp2_with fail
  refine (H3.out _).mono ?_
  rintro e w3 ⟨rfl, hb3⟩
  go_wp2_with fail
  refine (H4.out _).mono ?_
  rintro e w4 ⟨rfl, hb4⟩
  go_wp2_with fail
  go_ret
  exact ⟨rfl, ((hb1.trans (hb2.mono hb1.size)).trans (hb3.mono (Nat.le_trans hb1.size hb2.size))).trans (hb4.mono (Nat.le_trans hb1.size (Nat.le_trans hb2.size hb3.size)))⟩

theorem below_then {w a b : World} (h : Below w.heap.size w a) (k : Below a.heap.size a b) : Below w.heap.size w b := h.trans (k.mono h.size)

/-- Both opens give the same. -/
theorem both_open (s : ByteArray) (hs : s.size ≤ 1099511627776) : ∃ (t : ByteArray) (b : Bool),
    (∀ w : World, Calls Try.prog 47 #[.string s] w fun e w' => e = .returned (.tuple #[.string t, .bool b]) ∧ Below w.heap.size w w') ∧
    (∀ w : World, Calls Try.prog 48 #[.string s] w fun e w' => e = .returned (.tuple #[.string t, .bool b]) ∧ Below w.heap.size w w') := by
  by_cases h4 : s.size < 4
  · exact ⟨_, _, fun w => open_short s w h4, fun w => ropen_short s w h4⟩
  · by_cases h : sealL (s.data.toList.take (s.size - 4)) = s.data.toList
    · exact ⟨_, _, fun w => open_yes s w (by omega) hs h, fun w => ropen_yes s w (by omega) hs h⟩
    · exact ⟨_, _, fun w => open_no s w (by omega) hs h, fun w => ropen_no s w (by omega) hs h⟩

set_option maxHeartbeats 1000000 in
theorem castleExact_core (s : ByteArray) (w : World) :
    Calls Try.prog 10 #[.string s] w fun e w' => e = .returned (.bool true) ∧ Below w.heap.size w w' := by
  by_cases hs : s.size ≤ 1024
  · obtain ⟨t, b, O1, O2⟩ := both_open s (by omega)
    obtain ⟨q, hq⟩ : ∃ q : ByteArray, (⟨(sealL s.data.toList).toArray⟩ : ByteArray) = q := ⟨_, rfl⟩
    have S1 := fun W => seal_any s W (by omega)
    have S2 := fun W => rseal_any s q W (by omega) hq
    rw [hq] at S1
    have C1 := fun W => sum_any s W (by omega)
    have C2 := fun W => rsum_any s W (by omega)
    generalize crcSum s.data.toList = Z at C1 C2
    have hO1 := Lib.hid O1
    have hO2 := Lib.hid O2
    have hS1 := Lib.hid S1
    have hS2 := Lib.hid S2
    have hC1 := Lib.hid C1
    have hC2 := Lib.hid C2
    clear O1 O2 S1 S2 C1 C2 hq
    go_enter Try.func10, Try.ntmps10
    go_wp2_with fail
    refine (awake2 _).mono ?_
    rintro e w1 ⟨rfl, hb1⟩
    go_wp2_with fail
    refine (hO1.out _).mono ?_
    rintro e w2 ⟨rfl, hb2⟩
    go_wp2_with fail
    refine (hO2.out _).mono ?_
    rintro e w3 ⟨rfl, hb3⟩
    go_wp2_with fail
    refine (hC1.out _).mono ?_
    rintro e w4 ⟨rfl, hb4⟩
    go_wp2_with fail
    refine (hC2.out _).mono ?_
    rintro e w5 ⟨rfl, rfl⟩
    go_wp2_with fail
    refine (hS1.out _).mono ?_
    rintro e w6 ⟨rfl, hb6⟩
    go_wp2_with fail
    refine (hS2.out _).mono ?_
    rintro e w7 ⟨rfl, hb7⟩
    go_wp2_with fail
    go_ret
    exact ⟨ret_bool (by simp), below_then (below_then (below_then (below_then (below_then hb1 hb2) hb3) hb4) hb6) hb7⟩
  · go_enter Try.func10, Try.ntmps10
    go_wp2_with fail
    refine (awake2 _).mono ?_
    rintro e w1 ⟨rfl, hb1⟩
    go_wp2_with fail
    go_ret
    exact ⟨rfl, hb1⟩

theorem castleExact_walk (w : World) (v0 : Value) (h0 : Arg Try.prog w 9 v0) :
    Calls Try.prog 10 #[v0] w fun e w' => e = .returned (.bool true) ∧ Below w.heap.size w w' := by
  obtain ⟨s, rfl, _⟩ := arg_string Try.underlying9 h0
  exact castleExact_core s w
end Go.Proofs.Ytkeloklncjfddaa
