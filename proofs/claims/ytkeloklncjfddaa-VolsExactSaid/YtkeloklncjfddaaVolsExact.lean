/- The walk of VolsExact: it returns true and turns nothing that was there. -/
import Derived.Test.YtkeloklncjfddaaVolsE
import Derived.Test.YtkeloklncjfddaaFit
namespace Go.Proofs.Ytkeloklncjfddaa
set_option linter.unusedVariables false
set_option linter.unusedSimpArgs false
open Go.RowKit Go.ChangeShapes Go.WideShapes Go.ChangeAt

/-- The law's own boxes, and nothing old has turned. -/
structure VW (w : World) (b0 b1 : Nat) (i s r f : Int) (p : Bool) (k v : Int) (wx : World) : Prop where
  vol : Blk wx b0 23 #[.int .i64 i, .int .i64 s, .int .i64 r, .bool p, .int .i64 f]
  pair : Blk wx b1 26 #[.int .u64 k, .int .u64 v]
  below : Below w.heap.size w wx

section
variable {w wx w' : World} {b0 b1 : Nat} {i s r f : Int} {p : Bool} {k v : Int}
theorem VW.call (h : VW w b0 b1 i s r f p k v wx) (hb : Below wx.heap.size wx w') : VW w b0 b1 i s r f p k v w' :=
  ⟨h.vol.below hb h.vol.lt, h.pair.below hb h.pair.lt, h.below.trans (hb.mono h.below.size)⟩
theorem VW.new (h : VW w b0 b1 i s r f p k v wx) (o : Obj) : VW w b0 b1 i s r f p k v (wx.alloc o) :=
  ⟨h.vol.alloc o, h.pair.alloc o, h.below.alloc h.below.size o⟩
theorem VW.drew (h : VW w b0 b1 i s r f p k v wx) : VW w b0 b1 i s r f p k v wx.drew := ⟨h.vol, h.pair, h.below.drew⟩
theorem VW.cells (h : VW w b0 b1 i s r f p k v wx) :
    b0 < wx.heap.size ∧ b1 < wx.heap.size ∧ wx.cell? ⟨b0, 0, none⟩ = some (.int .i64 i) ∧ wx.cell? ⟨b0, 1, none⟩ = some (.int .i64 s) ∧ wx.cell? ⟨b0, 2, none⟩ = some (.int .i64 r) ∧ wx.cell? ⟨b0, 3, none⟩ = some (.bool p) ∧ wx.cell? ⟨b0, 4, none⟩ = some (.int .i64 f) ∧
    wx.cell? ⟨b1, 0, none⟩ = some (.int .u64 k) ∧ wx.cell? ⟨b1, 1, none⟩ = some (.int .u64 v) :=
  ⟨h.vol.lt, h.pair.lt, h.vol.cell 0, h.vol.cell 1, h.vol.cell 2, h.vol.cell 3, h.vol.cell 4, h.pair.cell 0, h.pair.cell 1⟩
end

theorem volB_yes {i s r f : Int} (h : GoodVol i s r f) : volB i s r f = true := by unfold volB; unfold GoodVol at h; simpa using h
theorem volB_no {i s r f : Int} (h : ¬ GoodVol i s r f) : volB i s r f = false := by unfold volB; unfold GoodVol at h; simpa only [decide_eq_false_iff_not] using h
theorem good11_yes' (i s r f : Int) (p : Bool) (w : World) (h : GoodVol i s r f) :
    Calls Try.prog 15 #[volV i s r p f] w fun e w' => e = .returned (.bool true) ∧ Below w.heap.size w w' :=
  (good11_any i s r f p w).mono fun _ _ ⟨he, hb⟩ => ⟨by rw [he, volB_yes h], hb⟩
theorem good11_no' (i s r f : Int) (p : Bool) (w : World) (h : ¬ GoodVol i s r f) :
    Calls Try.prog 15 #[volV i s r p f] w fun e w' => e = .returned (.bool false) ∧ Below w.heap.size w w' :=
  (good11_any i s r f p w).mono fun _ _ ⟨he, hb⟩ => ⟨by rw [he, volB_no h], hb⟩

theorem vol_fields {i s r f : Int} (p : Bool) (h : GoodVol i s r f) :
    (4294967296 + i) % 4294967296 = i ∧ volPair s r p f / 65536 % 65536 = s ∧ volPair s r p f % 65536 = r ∧ (volPair s r p f / 4294967296 % 256 == 1) = p ∧ volPair s r p f / 1099511627776 = f ∧ 0 ≤ volPair s r p f ∧ volPair s r p f ≤ 18446744073709551615 := by
  obtain ⟨h0, h1, h2, h3, h4, h5, h6, h7⟩ := h
  cases p <;> simp only [volPair, pinV]
  · refine ⟨by omega, by omega, by omega, ?_, by omega, by omega, by omega⟩
    simp only [beq_eq_false_iff_ne]; omega
  · refine ⟨by omega, by omega, by omega, ?_, by omega, by omega, by omega⟩
    simp only [beq_iff_eq]; omega
theorem read11_back (i s r f : Int) (p : Bool) (w : World) (h : GoodVol i s r f) :
    Calls Try.prog 17 #[.agg #[.int .u64 (4294967296 + i), .int .u64 (volPair s r p f)]] w fun e w' => e = .returned (.tuple #[volV i s r p f, .bool true]) ∧ Below w.heap.size w w' := by
  obtain ⟨e1, e2, e3, e4, e5, e6, e7⟩ := vol_fields p h
  have hh := h
  obtain ⟨h0, h1, h2, h3, h4, h5, h6, h7⟩ := h
  have := read11_yes (4294967296 + i) (volPair s r p f) w (by omega) (by omega) e6 e7 ⟨by rw [e1, e2, e3, e5]; exact hh, by rw [e1], by rw [e2, e3, e4, e5]⟩
  rwa [e1, e2, e3, e4, e5] at this

/-- Both reads of the last pair. -/
def lastV (k v : Int) (b : Bool) (u : Value) : Prop :=
  (b = true ∧ u = volV (k % 4294967296) (v / 65536 % 65536) (v % 65536) (v / 4294967296 % 256 == 1) (v / 1099511627776)) ∨ (b = false ∧ u = volV 0 0 0 false 0)
theorem both_reads (k v : Int) (h0 : 0 ≤ k) (h1 : k ≤ 18446744073709551615) (h2 : 0 ≤ v) (h3 : v ≤ 18446744073709551615) : ∃ (i s r f : Int) (p b : Bool),
    (∀ w : World, Calls Try.prog 17 #[.agg #[.int .u64 k, .int .u64 v]] w fun e w' => e = .returned (.tuple #[volV i s r p f, .bool b]) ∧ Below w.heap.size w w') ∧
    (∀ w : World, Calls Try.prog 19 #[.agg #[.int .u64 k, .int .u64 v]] w fun e w' => e = .returned (.tuple #[volV i s r p f, .bool b]) ∧ Below w.heap.size w w') := by
  by_cases h : VolOk k v
  · exact ⟨_, _, _, _, _, true, fun w => read11_yes k v w h0 h1 h2 h3 h, fun w => rread11_yes k v w h0 h1 h2 h3 h⟩
  · exact ⟨_, _, _, _, _, false, fun w => read11_no k v w h0 h1 h2 h3 h, fun w => rread11_no k v w h0 h1 h2 h3 h⟩

set_option maxRecDepth 100000 in
set_option maxHeartbeats 4000000 in
theorem volsExact_yes (i s r f : Int) (p : Bool) (k v : Int) (w : World) (hg : GoodVol i s r f) (h0 : 0 ≤ k) (h1 : k ≤ 18446744073709551615) (h2 : 0 ≤ v) (h3 : v ≤ 18446744073709551615) :
    Calls Try.prog 3 #[volV i s r p f, .agg #[.int .u64 k, .int .u64 v]] w fun e w' => e = .returned (.bool true) ∧ Below w.heap.size w w' := by
  have Hg := Lib.hid hg
  clear hg
  go_enter Try.func3, Try.ntmps3
  go_wp2_with fail
  refine (awake11 _).mono ?_
  rintro e w1 ⟨rfl, hb1⟩
  have V1 : VW w w.heap.size (w.heap.size + 1) i s r f p k v w1 := VW.call ⟨(Blk.new _ _ _).alloc _, blk_new (by simp), by (repeat (first | with_reducible exact Below.refl _ _ | with_reducible assumption | with_reducible apply Below.drew | with_reducible apply below_drewN | (with_reducible refine below_set ?_ ?_; focus ((try simp); (try omega); done)) | (with_reducible refine below_new ?_ ?_; focus ((try simp); (try omega); done))))⟩ hb1
  clear hb1
  obtain ⟨z0, z1, c0, c1, c2, c3, c4, c5, c6⟩ := V1.cells
  go_wp2_with fail
  obtain ⟨g0, g1, g2, g3, g4, g5, g6, g7⟩ := Hg.out
  refine (pair11_yes _ _ _ _ _ _ g0 g1 g2 g3 g4 g5 g6 g7).mono ?_
  rintro e w2 ⟨rfl, hb2⟩
  have V2 := V1.call hb2
  clear V1 hb2 z0 z1 c0 c1 c2 c3 c4 c5 c6
  obtain ⟨z0, z1, c0, c1, c2, c3, c4, c5, c6⟩ := V2.cells
  go_upto_region 4 with fail
  go_cut [24] (fun s24 wx => s24 = .bool false ∧ VW w w.heap.size (w.heap.size + 1) i s r f p k v wx ∧ Blk wx w2.heap.size 26 #[.int .u64 (4294967296 + i), .int .u64 (volPair s r p f)])
  case first =>
    go_region_with (first
      | (go_at_call 16; go_must (refine (rgood11_yes _ _ _ _ _ _ Hg.out).mono ?_; rintro e w4 ⟨rfl, hw4⟩; obtain ⟨hcw4, hfw4⟩ := bcell hw4; have hsw4 := hw4.size; (try simp at hsw4)))
      | (go_at_call 15; go_must (refine (good11_yes' _ _ _ _ _ _ Hg.out).mono ?_; rintro e w3 ⟨rfl, hw3⟩; obtain ⟨hcw3, hfw3⟩ := bcell hw3; have hsw3 := hw3.size; (try simp at hsw3); have y0 : w.heap.size < w3.heap.size := (by omega))))
    all_goals
      go_wp2_with fail
      go_meet
      case rel => exact ⟨rfl, (((V2.new _).drew).call hw3).call hw4, ((Blk.new _ _ _).drew.below hw3 (by simp)).below hw4 (by omega)⟩
  case rest =>
    obtain ⟨rfl, V3, Q3⟩ := hcut
    obtain ⟨i', s', r', f', p', b', HR1, HR2⟩ := both_reads k v h0 h1 h2 h3
    have hr1 := Lib.hid HR1
    have hr2 := Lib.hid HR2
    clear V2 HR1 HR2 z0 z1 c0 c1 c2 c3 c4 c5 c6 h0 h1 h2 h3
    obtain ⟨z0, z1, c0, c1, c2, c3, c4, c5, c6⟩ := V3.cells
    generalize w2.heap.size = b5 at Q3 ⊢
    go_wp2_with fail
    refine (rgood11_yes _ _ _ _ _ _ Hg.out).mono ?_
    rintro e w5 ⟨rfl, hb5⟩
    have V5 := V3.call hb5
    have Q5 := Q3.below hb5 Q3.lt
    clear V3 Q3 hb5 z0 z1 c0 c1 c2 c3 c4 c5 c6
    obtain ⟨z0, z1, c0, c1, c2, c3, c4, c5, c6⟩ := V5.cells
    have q0 := Q5.cell 0
    have q1 := Q5.cell 1
    have q2 := Q5.lt
    simp at q0 q1
    go_wp2_with fail
    refine (read11_back _ _ _ _ _ _ Hg.out).mono ?_
    rintro e w6 ⟨rfl, hb6⟩
    have V6 := V5.call hb6
    have Q6 := Q5.below hb6 Q5.lt
    clear V5 Q5 hb6 z0 z1 c0 c1 c2 c3 c4 c5 c6 q0 q1 q2
    obtain ⟨z0, z1, c0, c1, c2, c3, c4, c5, c6⟩ := V6.cells
    have q0 := Q6.cell 0
    have q1 := Q6.cell 1
    have q2 := Q6.lt
    simp at q0 q1
    go_upto_region 8 with fail
    go_cut [48] (fun s48 wx => s48 = .bool false ∧ VW w w.heap.size (w.heap.size + 1) i s r f p k v wx)
    case first =>
      go_region_with (go_at_call 18; go_must (refine (rpair11_yes' _ _ _ _ _ _ Hg.out).mono ?_; rintro e w7 ⟨rfl, hw7⟩; obtain ⟨hcw7, hfw7⟩ := bcell hw7; have hsw7 := hw7.size; (try simp at hsw7); have y0 : w.heap.size < w7.heap.size := (by omega); have y1 : b5 < w7.heap.size := (by omega); have y2 : w6.heap.size < w7.heap.size := (by omega)))
      all_goals
        go_wp2_with fail
        go_meet
        case rel => exact ⟨rfl, ((V6.new _).drew).call hw7⟩
    case rest =>
      obtain ⟨rfl, V7⟩ := hcut
      clear V6 Q6 z0 z1 c0 c1 c2 c3 c4 c5 c6 q0 q1 q2
      obtain ⟨z0, z1, c0, c1, c2, c3, c4, c5, c6⟩ := V7.cells
      go_wp2_with fail
      refine (hr1.out _).mono ?_
      rintro e w8 ⟨rfl, hb8⟩
      have V8 := V7.call hb8
      clear V7 hb8 z0 z1 c0 c1 c2 c3 c4 c5 c6
      obtain ⟨z0, z1, c0, c1, c2, c3, c4, c5, c6⟩ := V8.cells
      go_wp2_with fail
      refine (hr2.out _).mono ?_
      rintro e w9 ⟨rfl, hb9⟩
      have V9 := (V8.new _).call hb9
      have hc9 := (bcell hb9).1
      have hs9 : w8.heap.size < w9.heap.size := by have := hb9.size; simp at this; omega
      go_wp2_with fail
      go_ret
      exact ⟨ret_bool (by simp), by have := V9.below; (repeat (first | with_reducible exact Below.refl _ _ | with_reducible assumption | with_reducible apply Below.drew | with_reducible apply below_drewN | (with_reducible refine below_set ?_ ?_; focus ((try simp); (try omega); done)) | (with_reducible refine below_new ?_ ?_; focus ((try simp); (try omega); done))))⟩
end Go.Proofs.Ytkeloklncjfddaa
