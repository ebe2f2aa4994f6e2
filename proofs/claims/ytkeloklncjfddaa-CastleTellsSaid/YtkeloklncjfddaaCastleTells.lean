/- The walk of CastleTells: it returns true and turns nothing that was there. -/
import Derived.Test.YtkeloklncjfddaaTells
import Derived.Test.YtkeloklncjfddaaCastleExact
import Derived.RegionTactic
namespace Go.Proofs.Ytkeloklncjfddaa
set_option linter.unusedVariables false
set_option linter.unusedSimpArgs false
open Go.RowKit Go.ChangeShapes Go.WideShapes Go.ChangeAt

/-- What opening the turned text gives. -/
theorem open_turned (s : ByteArray) (k M : Nat) (hs : s.size ≤ 512) (hk : k ≤ s.size) (hM : M < 4294967296) (u : ByteArray) (hu : u.data.toList = turnTo (sealL s.data.toList) k M 4) :
    ∃ (t : ByteArray) (b : Bool), (b = decide (M = 0)) ∧ (b = true → t = s) ∧ (∀ w : World, Calls Try.prog 47 #[.string u] w fun e w' => e = .returned (.tuple #[.string t, .bool b]) ∧ Below w.heap.size w w') := by
  have hsl : s.data.toList.length = s.size := by simp
  have hul : u.size = s.size + 4 := by
    have : u.size = u.data.toList.length := by simp
    rw [this, hu, turnTo_length, sealL_length, hsl]
  by_cases h0 : M = 0
  · subst h0
    rw [turn_zero] at hu
    have ht : u.data.toList.take (u.size - 4) = s.data.toList := by
      rw [hu, hul, show s.size + 4 - 4 = s.data.toList.length by omega]
      exact List.take_left
    refine ⟨⟨(u.data.toList.take (u.size - 4)).toArray⟩, true, by simp, fun _ => by rw [ht, bytes_eta], fun w => open_yes u w (by omega) (by omega) (by rw [ht, hu])⟩
  · refine ⟨⟨#[]⟩, false, by simp [h0], (fun h => by cases h), fun w => open_no u w (by omega) (by omega) (fun h => ?_)⟩
    have hx := turned_closed s.data.toList k M (by omega) hM h0
    apply hx
    rw [hu, turnTo_xor _ s.data.toList.length k M (by rw [sealL_length]) (by omega), hul, show s.size + 4 - 4 = s.data.toList.length by omega] at h
    exact h

theorem xor_turn (x : UInt8) (M j : Nat) : bits .xor .u8 (x.toNat : Int) ((M : Int) / 2 ^ (8 * j) % 256) = ((x ^^^ UInt8.ofNat (M / 256 ^ j)).toNat : Int) := by
  rw [byte_shift, u8_xor_nat _ _ x.toNat_lt (UInt8.toNat_lt _), UInt8.toNat_xor]

set_option maxRecDepth 10000 in
set_option maxHeartbeats 2000000 in
theorem castleTells_core (s : ByteArray) (at_ : Int) (M : Nat) (w : World) (hs : s.size ≤ 512) (hM : M < 4294967296) :
    Calls Try.prog 11 #[.string s, .int .i64 at_, .int .u32 M] w fun e w' => e = .returned (.bool true) ∧ Below w.heap.size w w' := by
  obtain ⟨k, hk, hk1⟩ := modU at_ (s.size + 1) (by omega) (by omega)
  have hk2 : k ≤ s.size := by omega
  have hsl : s.data.toList.length = s.size := by simp
  obtain ⟨q, hq⟩ : ∃ q : ByteArray, (⟨(sealL s.data.toList).toArray⟩ : ByteArray) = q := ⟨_, rfl⟩
  have hqd : q.data.toList = sealL s.data.toList := by rw [← hq]
  have hqs : q.size = s.size + 4 := by
    have : q.size = q.data.toList.length := by simp
    rw [this, hqd, sealL_length, hsl]
  have S1 := fun W => seal_any s W (by omega)
  rw [hq] at S1
  have hS1 := Lib.hid S1
  have Hq := Lib.hid hqd
  have Hqs := Lib.hid hqs
  clear S1 hq hqd hsl hk1
  go_enter Try.func11, Try.ntmps11
  go_wp2_with fail
  refine (awake2 _).mono ?_
  rintro e w1 ⟨rfl, hb1⟩
  go_wp2_with fail
  refine (hS1.out _).mono ?_
  rintro e w2 ⟨rfl, hb2⟩
  have hb := below_then hb1 hb2
  have hz := hb.size
  clear hb1 hb2
  obtain ⟨c, hc1, hc2, hcv⟩ := conv_row q w2 (by unfold maxLen; omega)
  rw [Hq.out] at hcv
  rw [hqs] at hc1 hcv
  go_wp2_with fail
  go_loopw [10] (fun i wr => ∃ j : Nat, j ≤ 4 ∧ i = .int .i64 j ∧ Bytes wr w2.heap.size (turnTo (sealL s.data.toList) k M j) c ∧ Below w.heap.size w wr) (fun i _ => 4 - (intOf i).toNat)
  case atStart => exact ⟨0, by omega, rfl, Bytes.new_, by (repeat (first | with_reducible exact Below.refl _ _ | with_reducible assumption | with_reducible apply Below.drew | with_reducible apply below_drewN | (with_reducible refine below_set ?_ ?_; focus ((try simp); (try omega); done)) | (with_reducible refine below_new ?_ ?_; focus ((try simp); (try omega); done))))⟩
  case round =>
    obtain ⟨j, hj, rfl, hB, hb'⟩ := hrel
    clear hcv hb
    have hlen : (turnTo (sealL s.data.toList) k M j).length = s.size + 4 := by rw [turnTo_length, sealL_length]; simp
    have Hlen := Lib.hid hlen
    clear hlen
    by_cases hlt : j < 4
    · have hd : turnTo (sealL s.data.toList) k M (j + 1) = (turnTo (sealL s.data.toList) k M j).set (k + j) ((turnTo (sealL s.data.toList) k M j).getD (k + j) 0 ^^^ UInt8.ofNat (M / 256 ^ j)) := rfl
      have hcell := hB.cell (i := k + j) (by rw [Hlen.out]; omega)
      have hfz := hB.frozen (i := k + j) (by omega)
      have hx := xor_turn ((turnTo (sealL s.data.toList) k M j).getD (k + j) 0) M j
      have hset := hB.set_ (i := k + j) (by rw [Hlen.out]; omega) ((turnTo (sealL s.data.toList) k M j).getD (k + j) 0 ^^^ UInt8.ofNat (M / 256 ^ j))
      rw [← hd] at hset
      generalize (turnTo (sealL s.data.toList) k M j).getD (k + j) 0 = x at hcell hx hset
      generalize x ^^^ UInt8.ofNat (M / 256 ^ j) = y at hx hset
      clear hd
      generalize hL : turnTo (sealL s.data.toList) k M (j + 1) = L' at hset
      have HL := Lib.hid hL
      have Hset := Lib.hid hset
      have i1 : ((k : Int) + j) < ((s.size : Int) + 4) := by omega
      clear hL hset hB
      go_wp2_with fail
      go_region
      all_goals
        go_wp2_with fail
        go_roundw
        case rel => exact ⟨j + 1, by omega, by go_num, by rw [HL.out]; exact Hset.out.drew, by (repeat (first | with_reducible exact Below.refl _ _ | with_reducible assumption | with_reducible apply Below.drew | with_reducible apply below_drewN | (with_reducible refine below_set ?_ ?_; focus ((try simp); (try omega); done)) | (with_reducible refine below_new ?_ ?_; focus ((try simp); (try omega); done))))⟩
        case measure => simp [intOf]; omega
    · obtain rfl : j = 4 := by omega
      have hcv2 := hB.conv c (s.size + 4) Hlen.out
      obtain ⟨u, hu⟩ : ∃ u : ByteArray, (⟨(turnTo (sealL s.data.toList) k M 4).toArray⟩ : ByteArray) = u := ⟨_, rfl⟩
      obtain ⟨t, b, hb1, hb2, hO⟩ := open_turned s k M hs hk2 hM u (by rw [← hu])
      rw [hu] at hcv2
      have HO := Lib.hid hO
      clear hO hu hB
      by_cases hM0 : M = 0
      · have hbt : b = true := by rw [hb1]; simp [hM0]
        subst hM0
        obtain rfl := hb2 hbt
        subst hbt
        clear hb1 hb2
        go_wp2_with fail
        refine (HO.out _).mono ?_
        rintro e w3 ⟨rfl, hb3⟩
        go_wp2_with fail
        go_ret
        exact ⟨ret_bool (by simp), below_then hb' hb3⟩
      · have hbf : b = false := by rw [hb1]; simp [hM0]
        subst hbf
        have hne : ((M : Int) == 0) = false := by simp; exact hM0
        clear hb1 hb2
        go_wp2_with fail
        refine (HO.out _).mono ?_
        rintro e w3 ⟨rfl, hb3⟩
        go_wp2_with fail
        go_ret
        exact ⟨ret_bool (by simp), below_then hb' hb3⟩

theorem castleTells_walk (w : World) (v0 v1 v2 : Value) (h0 : Arg Try.prog w 9 v0) (h1 : Arg Try.prog w 3 v1) (h2 : Arg Try.prog w 81 v2) :
    Calls Try.prog 11 #[v0, v1, v2] w fun e w' => e = .returned (.bool true) ∧ Below w.heap.size w w' := by
  obtain ⟨s, rfl, _⟩ := arg_string Try.underlying9 h0
  obtain ⟨a, rfl, _⟩ := arg_int Try.underlying3 h1
  obtain ⟨m, rfl, wm⟩ := arg_int Try.underlying81 h2
  obtain ⟨m0, m1⟩ := bounds_u32 wm
  obtain ⟨M, rfl⟩ := Int.eq_ofNat_of_zero_le m0
  by_cases hs : s.size ≤ 512
  · exact castleTells_core s a M w hs (by omega)
  · clear h0 h1 h2 wm m0 m1
    go_enter Try.func11, Try.ntmps11
    go_wp2_with fail
    refine (awake2 _).mono ?_
    rintro e w1 ⟨rfl, hb1⟩
    go_wp2_with fail
    go_ret
    exact ⟨rfl, hb1⟩
end Go.Proofs.Ytkeloklncjfddaa
