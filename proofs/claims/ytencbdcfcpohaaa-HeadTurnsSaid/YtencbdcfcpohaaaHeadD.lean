/- The walk of head.Newest, of whatever reading gives. -/
import Derived.Test.YtencbdcfcpohaaaHeadC
namespace Go.Proofs.Ytencbdcfcpohaaa
set_option linter.unusedVariables false
set_option linter.unusedSimpArgs false
open Go.RowKit

/-- What a reading gives: a head, or none (then its cells are zeros). -/
structure HeadR where
  ok : Bool
  g : Nat
  r : Int
  a : Int
  b : Int
  c : Int
def HeadR.none : HeadR := ⟨false, 0, 0, 0, 0, 0⟩
abbrev HeadR.v (x : HeadR) : Value := headV x.g x.r x.a x.b x.c
def HeadR.e (x : HeadR) : Int := if x.ok then 0 else 3
def Reads (s : ByteArray) (x : HeadR) : Prop := ∀ w : World, Calls Try.prog 11 #[.string s] w fun e w' => e = .returned (.tuple #[x.v, .int .i64 x.e]) ∧ Below w.heap.size w w'

/-- The newest of two readings. -/
def newest (x y : HeadR) : HeadR × Int :=
  if x.ok = true ∧ (y.ok = false ∨ y.g ≤ x.g) then (x, 0) else if y.ok = true then (y, 1) else (.none, 0)

theorem newest_post {R : Ending → World → Prop} {ac : Act} {w : World} {H : Nat} {g : Nat} {r a b c x y : Int} (h2 : ac.tmps[4]?.getD undef = .pointer (some ⟨H, 0, none⟩)) (h3 : ac.tmps[5]?.getD undef = .int .i64 x) (h4 : ac.tmps[6]?.getD undef = .int .i64 y) (hd : ac.defers = [])
    (hF : Blk w H 25 #[.int .u64 g, .int .i64 r, .int .i64 a, .int .i64 b, .int .i64 c]) (hR : R (.returned (.tuple #[headV g r a b c, .int .i64 x, .int .i64 y])) w) : bodyPost Try.prog Try.f13 R .ret ac w := by
  obtain ⟨tm, df⟩ := ac
  simp only at h2 h3 h4 hd
  have p0 := hF.cell 0
  have p1 := hF.cell 1
  have p2 := hF.cell 2
  have p3 := hF.cell 3
  have p4 := hF.cell 4
  exact bodyPost_ret (v := .tuple #[headV g r a b c, .int .i64 x, .int .i64 y]) (by simp [results, Try.results13, go_sem, h2, h3, h4, p0, p1, p2, p3, p4]) hd hR

set_option maxHeartbeats 1000000 in
theorem newest_any (s t : ByteArray) (x y : HeadR) (hx : Reads s x) (hy : Reads t y) (w : World) (V : Value) (hV : V = .tuple #[(newest x y).1.v, .int .i64 (newest x y).2, .int .i64 (newest x y).1.e]) :
    Calls Try.prog 13 #[.string s, .string t] w fun e w' => e = .returned V ∧ Below w.heap.size w w' := by
  have HV := Lib.hid hV
  clear hV
  obtain ⟨xo, xg, xr, xa, xb, xc⟩ := x
  obtain ⟨yo, yg, yr, ya, yb, yc⟩ := y
  unfold Reads at hx hy
  simp only [HeadR.v, HeadR.e] at hx hy
  generalize hxe : (if xo = true then (0 : Int) else 3) = xe at hx
  generalize hye : (if yo = true then (0 : Int) else 3) = ye at hy
  have HX := Lib.hid hx
  have HY := Lib.hid hy
  clear hx hy
  have vx : xo = true → (yo = false ∨ yg ≤ xg) → V = .tuple #[headV xg xr xa xb xc, .int .i64 0, .int .i64 0] := by
    intro h1 h2; rw [HV.out]; unfold newest; rw [if_pos ⟨h1, h2⟩]; simp [HeadR.v, HeadR.e, h1]
  have vy : ¬ (xo = true ∧ (yo = false ∨ yg ≤ xg)) → yo = true → V = .tuple #[headV yg yr ya yb yc, .int .i64 1, .int .i64 0] := by
    intro h1 h2; rw [HV.out]; unfold newest; rw [if_neg h1, if_pos h2]; simp [HeadR.v, HeadR.e, h2]
  have vz : xo = false → yo = false → V = .tuple #[headV 0 0 0 0 0, .int .i64 0, .int .i64 3] := by
    intro h1 h2; rw [HV.out]; subst h1 h2; rfl
  have VX := Lib.hid vx
  have VY := Lib.hid vy
  have VZ := Lib.hid vz
  clear vx vy vz HV
  go_enter Try.func13, Try.ntmps13
  go_wp2_with fail
  refine (HX.out _).mono ?_
  rintro e w1 ⟨rfl, hw1⟩
  have hA : Blk w1 w.heap.size 25 #[.int .u64 0, .int .i64 0, .int .i64 0, .int .i64 0, .int .i64 0] := (Blk.new w 25 _).below hw1 (by simp)
  have hz := hA.lt
  have hb1 : Below w.heap.size w w1 := Below.trans (by (repeat (first | with_reducible exact Below.refl _ _ | with_reducible assumption | with_reducible apply Below.drew | with_reducible apply below_drewN | (with_reducible refine below_set ?_ ?_; focus ((try simp); (try omega); done)) | (with_reducible refine below_new ?_ ?_; focus ((try simp); (try omega); done))))) (hw1.mono (by simp))
  have HA := Lib.hid hA
  have HB := Lib.hid hb1
  clear hw1 hb1 hA
  go_wp2_with fail
  refine (HY.out _).mono ?_
  rintro e w2 ⟨rfl, hw2⟩
  have X2 : Blk w2 w1.heap.size 25 #[.int .u64 xg, .int .i64 xr, .int .i64 xa, .int .i64 xb, .int .i64 xc] := (Blk.new w1 25 _).below hw2 (by simp)
  have A2 : Blk w2 w.heap.size 25 #[.int .u64 0, .int .i64 0, .int .i64 0, .int .i64 0, .int .i64 0] := (HA.out.alloc (.cells #[.int .u64 xg, .int .i64 xr, .int .i64 xa, .int .i64 xb, .int .i64 xc] 25)).below hw2 (by simp; omega)
  have B2 : Below w.heap.size w w2 := (HB.out.alloc (Nat.le_of_lt hz) (.cells #[.int .u64 xg, .int .i64 xr, .int .i64 xa, .int .i64 xb, .int .i64 xc] 25)).trans (hw2.mono (by simp; omega))
  have hsz2 := X2.lt
  have zA2 := A2.lt
  have X3 := X2.alloc (.cells #[.int .u64 yg, .int .i64 yr, .int .i64 ya, .int .i64 yb, .int .i64 yc] 25)
  have A3 := A2.alloc (.cells #[.int .u64 yg, .int .i64 yr, .int .i64 ya, .int .i64 yb, .int .i64 yc] 25)
  have Y3 := Blk.new w2 25 #[.int .u64 yg, .int .i64 yr, .int .i64 ya, .int .i64 yb, .int .i64 yc]
  have B3 := B2.alloc (Nat.le_of_lt zA2) (.cells #[.int .u64 yg, .int .i64 yr, .int .i64 ya, .int .i64 yb, .int .i64 yc] 25)
  have HX2 := Lib.hid X3
  have HA2 := Lib.hid A3
  have HY2 := Lib.hid Y3
  have HB2 := Lib.hid B3
  clear A2 B2 X2 hw2 HA HB HX HY X3 A3 Y3 B3
  go_upto_region 3 with fail
  generalize w2.alloc (.cells #[.int .u64 yg, .int .i64 yr, .int .i64 ya, .int .i64 yb, .int .i64 yc] 25) = w3 at HX2 HA2 HY2 HB2 ⊢
  have x0 := HX2.out.cell 0
  have x1 := HX2.out.cell 1
  have x2 := HX2.out.cell 2
  have x3 := HX2.out.cell 3
  have x4 := HX2.out.cell 4
  have v0 := HY2.out.cell 0
  have v1 := HY2.out.cell 1
  have v2 := HY2.out.cell 2
  have v3 := HY2.out.cell 3
  have v4 := HY2.out.cell 4
  have a0 := HA2.out.cell 0
  have a1 := HA2.out.cell 1
  have a2 := HA2.out.cell 2
  have a3 := HA2.out.cell 3
  have a4 := HA2.out.cell 4
  have y0 := HA2.out.frozen 0
  have y1 := HA2.out.frozen 1
  have y2 := HA2.out.frozen 2
  have y3 := HA2.out.frozen 3
  have y4 := HA2.out.frozen 4
  cases xo with
  | true =>
    obtain rfl : xe = 0 := by rw [← hxe]; rfl
    cases yo with
    | true =>
      obtain rfl : ye = 0 := by rw [← hye]; rfl
      by_cases hc : yg ≤ xg
      · have hif : V = .tuple #[headV xg xr xa xb xc, .int .i64 0, .int .i64 0] := VX.out rfl (.inr hc)
        have HI := Lib.hid hif
        clear hif VX VY VZ
        go_wp2_with fail
        have hb7 := HB2.out
        exact newest_post rfl rfl rfl rfl (head_set HA2.out (.int .u64 xg) (.int .i64 xr) (.int .i64 xa) (.int .i64 xb) (.int .i64 xc)) ⟨by rw [HI.out] <;> rfl, by (repeat (first | with_reducible exact Below.refl _ _ | with_reducible assumption | with_reducible apply Below.drew | with_reducible apply below_drewN | (with_reducible refine below_set ?_ ?_; focus ((try simp); (try omega); done)) | (with_reducible refine below_new ?_ ?_; focus ((try simp); (try omega); done))))⟩
      · have hc2 : xg < yg := by omega
        have hif : V = .tuple #[headV yg yr ya yb yc, .int .i64 1, .int .i64 0] := VY.out (fun h => by rcases h.2 with h | h; cases h; omega) rfl
        have HI := Lib.hid hif
        clear hif VX VY VZ
        go_wp2_with fail
        have hb7 := HB2.out
        exact newest_post rfl rfl rfl rfl (head_set HA2.out (.int .u64 yg) (.int .i64 yr) (.int .i64 ya) (.int .i64 yb) (.int .i64 yc)) ⟨by rw [HI.out] <;> rfl, by (repeat (first | with_reducible exact Below.refl _ _ | with_reducible assumption | with_reducible apply Below.drew | with_reducible apply below_drewN | (with_reducible refine below_set ?_ ?_; focus ((try simp); (try omega); done)) | (with_reducible refine below_new ?_ ?_; focus ((try simp); (try omega); done))))⟩
    | false =>
      obtain rfl : ye = 3 := by rw [← hye]; rfl
      have hif : V = .tuple #[headV xg xr xa xb xc, .int .i64 0, .int .i64 0] := VX.out rfl (.inl rfl)
      have HI := Lib.hid hif
      clear hif VX VY VZ
      go_wp2_with fail
      have hb7 := HB2.out
      exact newest_post rfl rfl rfl rfl (head_set HA2.out (.int .u64 xg) (.int .i64 xr) (.int .i64 xa) (.int .i64 xb) (.int .i64 xc)) ⟨by rw [HI.out] <;> rfl, by (repeat (first | with_reducible exact Below.refl _ _ | with_reducible assumption | with_reducible apply Below.drew | with_reducible apply below_drewN | (with_reducible refine below_set ?_ ?_; focus ((try simp); (try omega); done)) | (with_reducible refine below_new ?_ ?_; focus ((try simp); (try omega); done))))⟩
  | false =>
    obtain rfl : xe = 3 := by rw [← hxe]; rfl
    cases yo with
    | true =>
      obtain rfl : ye = 0 := by rw [← hye]; rfl
      have hif : V = .tuple #[headV yg yr ya yb yc, .int .i64 1, .int .i64 0] := VY.out (fun h => by cases h.1) rfl
      have HI := Lib.hid hif
      clear hif VX VY VZ
      go_wp2_with fail
      have hb7 := HB2.out
      exact newest_post rfl rfl rfl rfl (head_set HA2.out (.int .u64 yg) (.int .i64 yr) (.int .i64 ya) (.int .i64 yb) (.int .i64 yc)) ⟨by rw [HI.out] <;> rfl, by (repeat (first | with_reducible exact Below.refl _ _ | with_reducible assumption | with_reducible apply Below.drew | with_reducible apply below_drewN | (with_reducible refine below_set ?_ ?_; focus ((try simp); (try omega); done)) | (with_reducible refine below_new ?_ ?_; focus ((try simp); (try omega); done))))⟩
    | false =>
      obtain rfl : ye = 3 := by rw [← hye]; rfl
      have hif : V = .tuple #[headV 0 0 0 0 0, .int .i64 0, .int .i64 3] := VZ.out rfl rfl
      have HI := Lib.hid hif
      clear hif VX VY VZ
      go_wp2_with fail
      have hb7 := HB2.out
      exact newest_post rfl rfl rfl rfl (head_set HA2.out (.int .u64 ((0 : Nat) : Int)) (.int .i64 0) (.int .i64 0) (.int .i64 0) (.int .i64 0)) ⟨by rw [HI.out] <;> rfl, by (repeat (first | with_reducible exact Below.refl _ _ | with_reducible assumption | with_reducible apply Below.drew | with_reducible apply below_drewN | (with_reducible refine below_set ?_ ?_; focus ((try simp); (try omega); done)) | (with_reducible refine below_new ?_ ?_; focus ((try simp); (try omega); done))))⟩
end Go.Proofs.Ytencbdcfcpohaaa
