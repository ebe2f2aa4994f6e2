/- The walk of CastleParts: it returns true and turns nothing that was there. -/
import Derived.Test.YtkeloklncjfddaaCastleExact
namespace Go.Proofs.Ytkeloklncjfddaa
set_option linter.unusedVariables false
set_option linter.unusedSimpArgs false
open Go.RowKit Go.ChangeShapes Go.WideShapes Go.ChangeAt

theorem u8_back {x : Int} (h : (Lit.int .u8 x).wf = true) : ∃ X : UInt8, x = (X.toNat : Int) := by
  obtain ⟨h0, h1⟩ := bounds_u8 h
  refine ⟨UInt8.ofNat x.toNat, ?_⟩
  rw [UInt8.toNat_ofNat']
  omega

theorem conv_one (w : World) (g : Nat) (X : UInt8) (h : w.cell? ⟨g, 0, none⟩ = some (.int .u8 (X.toNat : Int))) :
    (convert 68 9 (.slice (some ⟨g, 0, none⟩) 1 1)).run Try.prog w = .ok (.string ⟨#[X]⟩) w :=
  conv_string w g 0 1 [X] 1 rfl (fun i hi => by
    obtain rfl : i = 0 := by omega
    exact h)

set_option maxRecDepth 10000 in
set_option maxHeartbeats 1000000 in
theorem castleParts_core (a b : ByteArray) (X Y : UInt8) (w : World) (ha : a.size ≤ 512) (hb : b.size ≤ 512) :
    Calls Try.prog 12 #[.string a, .string b, .int .u8 X.toNat, .int .u8 Y.toNat] w fun e w' => e = .returned (.bool true) ∧ Below w.heap.size w w' := by
  have hp := crcSum_parts a.data.toList b.data.toList X Y
  obtain ⟨s, hs⟩ : ∃ s : ByteArray, a ++ (⟨#[X]⟩ : ByteArray) ++ b = s := ⟨_, rfl⟩
  obtain ⟨t, ht⟩ : ∃ t : ByteArray, a ++ (⟨#[Y]⟩ : ByteArray) ++ b = t := ⟨_, rfl⟩
  have hsd : s.data.toList = a.data.toList ++ [X] ++ b.data.toList := by rw [← hs, Joins.data_append, Joins.data_append]
  have htd : t.data.toList = a.data.toList ++ [Y] ++ b.data.toList := by rw [← ht, Joins.data_append, Joins.data_append]
  have hss : s.size ≤ 2000 := by
    have : s.size = s.data.toList.length := by simp
    rw [this, hsd]
    simp
    omega
  have hts : t.size ≤ 2000 := by
    have : t.size = t.data.toList.length := by simp
    rw [this, htd]
    simp
    omega
  rw [← hsd, ← htd] at hp
  have C1 := fun W => sum_any s W (by omega)
  have C2 := fun W => sum_any t W (by omega)
  generalize crcSum s.data.toList = Z at C1 hp
  generalize crcSum t.data.toList = V at C2 hp
  have hsz : (⟨#[X]⟩ : ByteArray).size = 1 := rfl
  have hsz2 : (⟨#[Y]⟩ : ByteArray).size = 1 := rfl
  have hC1 := Lib.hid C1
  have hC2 := Lib.hid C2
  have hfin : (((Z : Int) == V) == ((X.toNat : Int) == Y.toNat)) = true := by
    have h1 : ((Z : Int) == V) = decide (Z = V) := by rw [Bool.eq_iff_iff]; simp only [beq_iff_eq, decide_eq_true_eq, Int.natCast_inj]
    have h2 : ((X.toNat : Int) == Y.toNat) = decide (X = Y) := by
      rw [Bool.eq_iff_iff]
      simp only [beq_iff_eq, decide_eq_true_eq, Int.natCast_inj]
      exact ⟨fun e => UInt8.toNat.inj e, fun e => by rw [e]⟩
    rw [h1, h2]
    simp only [beq_iff_eq, decide_eq_decide]
    exact hp
  have hF := Lib.hid hfin
  clear C1 C2 hp hsd htd hss hts hfin
  go_enter Try.func12, Try.ntmps12
  go_wp2_with fail
  refine (awake2 _).mono ?_
  rintro e w1 ⟨rfl, hb1⟩
  have v1 := conv_one (w1.alloc (.cells #[.int .u8 (X.toNat : Int)] 5)) w1.heap.size X (by simp)
  have v2 := conv_one ((w1.alloc (.cells #[.int .u8 (X.toNat : Int)] 5)).alloc (.cells #[.int .u8 (Y.toNat : Int)] 5)) (w1.heap.size + 1) Y (by simp)
  go_wp2_with fail
  refine (hC1.out _).mono ?_
  rintro e w2 ⟨rfl, hb2⟩
  go_wp2_with fail
  refine (hC2.out _).mono ?_
  rintro e w3 ⟨rfl, hb3⟩
  go_wp2_with fail
  go_ret
  refine ⟨ret_bool ?_, below_then (below_then ?_ hb2) hb3⟩
  · exact hF.out
  · have hz := hb1.size
    (repeat (first | with_reducible exact Below.refl _ _ | with_reducible assumption | with_reducible apply Below.drew | with_reducible apply below_drewN | (with_reducible refine below_set ?_ ?_; focus ((try simp); (try omega); done)) | (with_reducible refine below_new ?_ ?_; focus ((try simp); (try omega); done))))

set_option maxHeartbeats 1000000 in
theorem castleParts_walk (w : World) (v0 v1 v2 v3 : Value) (h0 : Arg Try.prog w 9 v0) (h1 : Arg Try.prog w 9 v1) (h2 : Arg Try.prog w 5 v2) (h3 : Arg Try.prog w 5 v3) :
    Calls Try.prog 12 #[v0, v1, v2, v3] w fun e w' => e = .returned (.bool true) ∧ Below w.heap.size w w' := by
  obtain ⟨a, rfl, _⟩ := arg_string Try.underlying9 h0
  obtain ⟨b, rfl, _⟩ := arg_string Try.underlying9 h1
  obtain ⟨x, rfl, wx⟩ := arg_int Try.underlying5 h2
  obtain ⟨y, rfl, wy⟩ := arg_int Try.underlying5 h3
  obtain ⟨X, rfl⟩ := u8_back wx
  obtain ⟨Y, rfl⟩ := u8_back wy
  by_cases hs : a.size ≤ 512 ∧ b.size ≤ 512
  · exact castleParts_core a b X Y w hs.1 hs.2
  · by_cases ha : a.size ≤ 512
    · have hb : ¬ b.size ≤ 512 := fun h => hs ⟨ha, h⟩
      clear hs wx wy h0 h1 h2 h3
      go_enter Try.func12, Try.ntmps12
      go_wp2_with fail
      refine (awake2 _).mono ?_
      rintro e w1 ⟨rfl, hb1⟩
      go_wp2_with fail
      go_ret
      exact ⟨rfl, hb1⟩
    · clear hs wx wy h0 h1 h2 h3
      go_enter Try.func12, Try.ntmps12
      go_wp2_with fail
      refine (awake2 _).mono ?_
      rintro e w1 ⟨rfl, hb1⟩
      go_wp2_with fail
      go_ret
      exact ⟨rfl, hb1⟩
end Go.Proofs.Ytkeloklncjfddaa
