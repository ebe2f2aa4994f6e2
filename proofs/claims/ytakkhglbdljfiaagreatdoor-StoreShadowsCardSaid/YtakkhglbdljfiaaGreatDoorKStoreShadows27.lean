/- The walk of head's reference: Read. -/
import Derived.Test.YtakkhglbdljfiaaGreatDoorKStoreShadows26
import Derived.Lib.Strings
namespace Go.Proofs.YtakkhglbdljfiaaGreatDoor
attribute [local simp] BigFrame.eval_const BigFrame.eval_global BigFrame.eval_func
set_option linter.unusedVariables false
set_option linter.unusedSimpArgs false
open Go.RowKit

end Go.Proofs.YtakkhglbdljfiaaGreatDoor

/- The walk of head.Newest, of whatever reading gives. -/
namespace Go.Proofs.YtakkhglbdljfiaaGreatDoor
set_option linter.unusedVariables false
set_option linter.unusedSimpArgs false
open Go.RowKit

/-- What a reading gives: a head, or none (then its cells are zeros). -/
structure HeadR where
  ok : Bool
  g : Nat
  r : Int
  a : Int
  b : Int
  c : Int
def HeadR.none : HeadR := ⟨false, 0, 0, 0, 0, 0⟩
abbrev HeadR.v (x : HeadR) : Value := headV x.g x.r x.a x.b x.c
def HeadR.e (x : HeadR) : Int := if x.ok then 0 else 3
def Reads (s : ByteArray) (x : HeadR) : Prop := ∀ w : World, Calls Tryz.prog 99 #[.string s] w fun e w' => e = .returned (.tuple #[x.v, .int .i64 x.e]) ∧ Below w.heap.size w w'

/-- The newest of two readings. -/
def newest (x y : HeadR) : HeadR × Int :=
  if x.ok = true ∧ (y.ok = false ∨ y.g ≤ x.g) then (x, 0) else if y.ok = true then (y, 1) else (.none, 0)

theorem Z1q {R : Ending → World → Prop} {ac : Act} {w : World} {H : Nat} {g : Nat} {r a b c x y : Int} (h2 : ac.tmps[4]?.getD undef = .pointer (some ⟨H, 0, none⟩)) (h3 : ac.tmps[5]?.getD undef = .int .i64 x) (h4 : ac.tmps[6]?.getD undef = .int .i64 y) (hd : ac.defers = [])
    (hF : Blk w H 39 #[.int .u64 g, .int .i64 r, .int .i64 a, .int .i64 b, .int .i64 c]) (hR : R (.returned (.tuple #[headV g r a b c, .int .i64 x, .int .i64 y])) w) : bodyPost Tryz.prog Tryz.f65 R .ret ac w := by
  obtain ⟨tm, df⟩ := ac
  simp only at h2 h3 h4 hd
  have p0 := hF.cell 0
  have p1 := hF.cell 1
  have p2 := hF.cell 2
  have p3 := hF.cell 3
  have p4 := hF.cell 4
  exact bodyPost_ret (v := .tuple #[headV g r a b c, .int .i64 x, .int .i64 y]) (by simp [results, Tryz.results65, go_sem, h2, h3, h4, p0, p1, p2, p3, p4]) hd hR

set_option maxHeartbeats 1000000 in
theorem newest_any (s t : ByteArray) (x y : HeadR) (hx : Reads s x) (hy : Reads t y) (w : World) (V : Value) (hV : V = .tuple #[(newest x y).1.v, .int .i64 (newest x y).2, .int .i64 (newest x y).1.e]) :
    Calls Tryz.prog 65 #[.string s, .string t] w fun e w' => e = .returned V ∧ Below w.heap.size w w' := by
  have HV := Lib.hid hV
  clear hV
  obtain ⟨xo, xg, xr, xa, xb, xc⟩ := x
  obtain ⟨yo, yg, yr, ya, yb, yc⟩ := y
  unfold Reads at hx hy
  simp only [HeadR.v, HeadR.e] at hx hy
  generalize hxe : (if xo = true then (0 : Int) else 3) = xe at hx
  generalize hye : (if yo = true then (0 : Int) else 3) = ye at hy
  have HX := Lib.hid hx
  have HY := Lib.hid hy
  clear hx hy
  have vx : xo = true → (yo = false ∨ yg ≤ xg) → V = .tuple #[headV xg xr xa xb xc, .int .i64 0, .int .i64 0] := by
    intro h1 h2; rw [HV.out]; unfold newest; rw [if_pos ⟨h1, h2⟩]; simp [HeadR.v, HeadR.e, h1]
  have vy : ¬ (xo = true ∧ (yo = false ∨ yg ≤ xg)) → yo = true → V = .tuple #[headV yg yr ya yb yc, .int .i64 1, .int .i64 0] := by
    intro h1 h2; rw [HV.out]; unfold newest; rw [if_neg h1, if_pos h2]; simp [HeadR.v, HeadR.e, h2]
  have vz : xo = false → yo = false → V = .tuple #[headV 0 0 0 0 0, .int .i64 0, .int .i64 3] := by
    intro h1 h2; rw [HV.out]; subst h1 h2; rfl
  have VX := Lib.hid vx
  have VY := Lib.hid vy
  have VZ := Lib.hid vz
  clear vx vy vz HV
  go_enter Tryz.func65, Tryz.ntmps65
  go_wp2_with fail
  refine (HX.out _).mono ?_
  rintro e w1 ⟨rfl, hw1⟩
  have hA : Blk w1 w.heap.size 39 #[.int .u64 0, .int .i64 0, .int .i64 0, .int .i64 0, .int .i64 0] := (Blk.new w 39 _).below hw1 (by simp)
  have hz := hA.lt
  have hb1 : Below w.heap.size w w1 := Below.trans (by (repeat (first | with_reducible exact Below.refl _ _ | with_reducible assumption | with_reducible apply Below.drew | with_reducible apply Z09 | (with_reducible refine Z0e ?_ ?_; focus ((try simp); (try omega); done)) | (with_reducible refine Z0f ?_ ?_; focus ((try simp); (try omega); done))))) (hw1.mono (by simp))
  have HA := Lib.hid hA
  have HB := Lib.hid hb1
  clear hw1 hb1 hA
  go_wp2_with fail
  refine (HY.out _).mono ?_
  rintro e w2 ⟨rfl, hw2⟩
  have X2 : Blk w2 w1.heap.size 39 #[.int .u64 xg, .int .i64 xr, .int .i64 xa, .int .i64 xb, .int .i64 xc] := (Blk.new w1 39 _).below hw2 (by simp)
  have A2 : Blk w2 w.heap.size 39 #[.int .u64 0, .int .i64 0, .int .i64 0, .int .i64 0, .int .i64 0] := (HA.out.alloc (.cells #[.int .u64 xg, .int .i64 xr, .int .i64 xa, .int .i64 xb, .int .i64 xc] 39)).below hw2 (by simp; omega)
  have B2 : Below w.heap.size w w2 := (HB.out.alloc (Nat.le_of_lt hz) (.cells #[.int .u64 xg, .int .i64 xr, .int .i64 xa, .int .i64 xb, .int .i64 xc] 39)).trans (hw2.mono (by simp; omega))
  have hsz2 := X2.lt
  have zA2 := A2.lt
  have X3 := X2.alloc (.cells #[.int .u64 yg, .int .i64 yr, .int .i64 ya, .int .i64 yb, .int .i64 yc] 39)
  have A3 := A2.alloc (.cells #[.int .u64 yg, .int .i64 yr, .int .i64 ya, .int .i64 yb, .int .i64 yc] 39)
  have Y3 := Blk.new w2 39 #[.int .u64 yg, .int .i64 yr, .int .i64 ya, .int .i64 yb, .int .i64 yc]
  have B3 := B2.alloc (Nat.le_of_lt zA2) (.cells #[.int .u64 yg, .int .i64 yr, .int .i64 ya, .int .i64 yb, .int .i64 yc] 39)
  have HX2 := Lib.hid X3
  have HA2 := Lib.hid A3
  have HY2 := Lib.hid Y3
  have HB2 := Lib.hid B3
  clear A2 B2 X2 hw2 HA HB HX HY X3 A3 Y3 B3
  go_upto_region 3 with fail
  generalize w2.alloc (.cells #[.int .u64 yg, .int .i64 yr, .int .i64 ya, .int .i64 yb, .int .i64 yc] 39) = w3 at HX2 HA2 HY2 HB2 ⊢
  have x0 := HX2.out.cell 0
  have x1 := HX2.out.cell 1
  have x2 := HX2.out.cell 2
  have x3 := HX2.out.cell 3
  have x4 := HX2.out.cell 4
  have v0 := HY2.out.cell 0
  have v1 := HY2.out.cell 1
  have v2 := HY2.out.cell 2
  have v3 := HY2.out.cell 3
  have v4 := HY2.out.cell 4
  have a0 := HA2.out.cell 0
  have a1 := HA2.out.cell 1
  have a2 := HA2.out.cell 2
  have a3 := HA2.out.cell 3
  have a4 := HA2.out.cell 4
  have y0 := HA2.out.frozen 0
  have y1 := HA2.out.frozen 1
  have y2 := HA2.out.frozen 2
  have y3 := HA2.out.frozen 3
  have y4 := HA2.out.frozen 4
  cases xo with
  | true =>
    obtain rfl : xe = 0 := by rw [← hxe]; rfl
    cases yo with
    | true =>
      obtain rfl : ye = 0 := by rw [← hye]; rfl
      by_cases hc : yg ≤ xg
      · have hif : V = .tuple #[headV xg xr xa xb xc, .int .i64 0, .int .i64 0] := VX.out rfl (.inr hc)
        have HI := Lib.hid hif
        clear hif VX VY VZ
        go_wp2_with fail
        have hb7 := HB2.out
        exact Z1q rfl rfl rfl rfl (Z1l HA2.out (.int .u64 xg) (.int .i64 xr) (.int .i64 xa) (.int .i64 xb) (.int .i64 xc)) ⟨by rw [HI.out] <;> rfl, by (repeat (first | with_reducible exact Below.refl _ _ | with_reducible assumption | with_reducible apply Below.drew | with_reducible apply Z09 | (with_reducible refine Z0e ?_ ?_; focus ((try simp); (try omega); done)) | (with_reducible refine Z0f ?_ ?_; focus ((try simp); (try omega); done))))⟩
      · have hc2 : xg < yg := by omega
        have hif : V = .tuple #[headV yg yr ya yb yc, .int .i64 1, .int .i64 0] := VY.out (fun h => by rcases h.2 with h | h; cases h; omega) rfl
        have HI := Lib.hid hif
        clear hif VX VY VZ
        go_wp2_with fail
        have hb7 := HB2.out
        exact Z1q rfl rfl rfl rfl (Z1l HA2.out (.int .u64 yg) (.int .i64 yr) (.int .i64 ya) (.int .i64 yb) (.int .i64 yc)) ⟨by rw [HI.out] <;> rfl, by (repeat (first | with_reducible exact Below.refl _ _ | with_reducible assumption | with_reducible apply Below.drew | with_reducible apply Z09 | (with_reducible refine Z0e ?_ ?_; focus ((try simp); (try omega); done)) | (with_reducible refine Z0f ?_ ?_; focus ((try simp); (try omega); done))))⟩
    | false =>
      obtain rfl : ye = 3 := by rw [← hye]; rfl
      have hif : V = .tuple #[headV xg xr xa xb xc, .int .i64 0, .int .i64 0] := VX.out rfl (.inl rfl)
      have HI := Lib.hid hif
      clear hif VX VY VZ
      go_wp2_with fail
      have hb7 := HB2.out
      exact Z1q rfl rfl rfl rfl (Z1l HA2.out (.int .u64 xg) (.int .i64 xr) (.int .i64 xa) (.int .i64 xb) (.int .i64 xc)) ⟨by rw [HI.out] <;> rfl, by (repeat (first | with_reducible exact Below.refl _ _ | with_reducible assumption | with_reducible apply Below.drew | with_reducible apply Z09 | (with_reducible refine Z0e ?_ ?_; focus ((try simp); (try omega); done)) | (with_reducible refine Z0f ?_ ?_; focus ((try simp); (try omega); done))))⟩
  | false =>
    obtain rfl : xe = 3 := by rw [← hxe]; rfl
    cases yo with
    | true =>
      obtain rfl : ye = 0 := by rw [← hye]; rfl
      have hif : V = .tuple #[headV yg yr ya yb yc, .int .i64 1, .int .i64 0] := VY.out (fun h => by cases h.1) rfl
      have HI := Lib.hid hif
      clear hif VX VY VZ
      go_wp2_with fail
      have hb7 := HB2.out
      exact Z1q rfl rfl rfl rfl (Z1l HA2.out (.int .u64 yg) (.int .i64 yr) (.int .i64 ya) (.int .i64 yb) (.int .i64 yc)) ⟨by rw [HI.out] <;> rfl, by (repeat (first | with_reducible exact Below.refl _ _ | with_reducible assumption | with_reducible apply Below.drew | with_reducible apply Z09 | (with_reducible refine Z0e ?_ ?_; focus ((try simp); (try omega); done)) | (with_reducible refine Z0f ?_ ?_; focus ((try simp); (try omega); done))))⟩
    | false =>
      obtain rfl : ye = 3 := by rw [← hye]; rfl
      have hif : V = .tuple #[headV 0 0 0 0 0, .int .i64 0, .int .i64 3] := VZ.out rfl rfl
      have HI := Lib.hid hif
      clear hif VX VY VZ
      go_wp2_with fail
      have hb7 := HB2.out
      exact Z1q rfl rfl rfl rfl (Z1l HA2.out (.int .u64 ((0 : Nat) : Int)) (.int .i64 0) (.int .i64 0) (.int .i64 0) (.int .i64 0)) ⟨by rw [HI.out] <;> rfl, by (repeat (first | with_reducible exact Below.refl _ _ | with_reducible assumption | with_reducible apply Below.drew | with_reducible apply Z09 | (with_reducible refine Z0e ?_ ?_; focus ((try simp); (try omega); done)) | (with_reducible refine Z0f ?_ ?_; focus ((try simp); (try omega); done))))⟩
end Go.Proofs.YtakkhglbdljfiaaGreatDoor

/- What a reading of a sector gives, by its bytes; both readings are that. -/
namespace Go.Proofs.YtakkhglbdljfiaaGreatDoor
set_option linter.unusedVariables false
set_option linter.unusedSimpArgs false
open Go.RowKit

def hG (L : List UInt8) : Nat := numL ((L.drop 6).take 4)
def hR (L : List UInt8) : Nat := numL ((L.drop 10).take 2)
def hA (L : List UInt8) : Nat := numL ((L.drop 2).take 2)
def hB (L : List UInt8) : Nat := numL ((L.drop 4).take 2)
def hC (L : List UInt8) : Nat := (L.getD 1 0).toNat
def headOf (L : List UInt8) : List UInt8 := headL (hG L) (hR L) (hA L) (hB L) (hC L)
abbrev HeadIs (L : List UInt8) : Prop := L.length = 16 ∧ HeadOk (hG L) (hR L) (hA L) (hB L) (hC L) ∧ sealL (headOf L) = L
def hdRead (L : List UInt8) : HeadR := if HeadIs L then ⟨true, hG L, hR L, hA L, hB L, hC L⟩ else .none

theorem Z1o {st : List UInt8 × Bool} {k n : Nat} {l : List UInt8} (h : getN st k = (n, (l, false))) : st.2 = false ∧ st.1.length = k + l.length := by
  unfold getN at h
  split at h
  · rename_i hk
    simp only [Prod.mk.injEq] at h
    obtain ⟨_, h1, h2⟩ := h
    refine ⟨h2, ?_⟩
    rw [← h1, List.length_drop]
    omega
  · simp at h
theorem Z2m (l : List UInt8) (k : Nat) (h : k ≤ l.length) : getN (l, false) k = (numL (l.take k), (l.drop k, false)) := by
  unfold getN; rw [if_pos h]
theorem take_at (l : List UInt8) (k : Nat) (h : k < l.length) : (l.drop k).take 1 = [l.getD k 0] := by
  rw [List.drop_eq_getElem_cons h, List.take_succ_cons, List.take_zero]
  simp [List.getD, List.getElem?_eq_getElem h]
theorem Z44 (x : UInt8) : numL [x] = x.toNat := by simp [numL]
theorem Z4m (l : List UInt8) (k n : Nat) (h : k + n ≤ l.length) : le (numL ((l.drop k).take n)) n = (l.drop k).take n := by
  have := Z61 ((l.drop k).take n)
  rwa [show ((l.drop k).take n).length = n by rw [List.length_take, List.length_drop]; omega] at this

/-- Twelve bytes are a head's parts. -/
theorem twelve (T : List UInt8) (h : T.length = 12) : T = le (numL (T.take 1)) 1 ++ le (T.getD 1 0).toNat 1 ++ le (numL ((T.drop 2).take 2)) 2 ++ le (numL ((T.drop 4).take 2)) 2 ++ le (numL ((T.drop 6).take 4)) 4 ++ le (numL ((T.drop 10).take 2)) 2 := by
  rw [Z4m T 2 2 (by omega), Z4m T 4 2 (by omega), Z4m T 6 4 (by omega), Z4m T 10 2 (by omega)]
  have h0 := Z4m T 0 1 (by omega)
  rw [List.drop_zero] at h0
  rw [h0]
  match T, h with
  | [a, b, c, d, e, f, g, i, j, k, l, m], _ =>
    have : le b.toNat 1 = [b] := by
      have := Z61 [b]
      rwa [Z44] at this
    simp [this]

theorem Z6h {a b : List UInt8} (h : sealL a = sealL b) : a = b := by
  have hl := congrArg List.length h
  rw [Z1g, Z1g] at hl
  unfold sealL at h
  exact (List.append_inj h (by omega)).1
theorem sealL_take (a : List UInt8) : (sealL a).take a.length = a := by unfold sealL; rw [List.take_left']; rfl

theorem hreads_any (s : ByteArray) (hs : s.size ≤ 1000000) : Reads s (hdRead s.data.toList) := by
  intro w
  have hl : s.data.toList.length = s.size := by simp
  generalize hL : s.data.toList = L at hl
  by_cases h4 : s.size < 4
  · have : hdRead L = .none := by unfold hdRead; rw [if_neg (fun e => by have := e.1; omega)]
    rw [this]
    exact Z3x s w (fun W => (Z5d s W h4))
  · by_cases ho : sealL (s.data.toList.take (s.size - 4)) = s.data.toList
    · have hop := fun W => Z88 s W (by omega) (by omega) ho
      rw [hL] at ho hop
      obtain ⟨T, hT⟩ : ∃ T, T = L.take (s.size - 4) := ⟨_, rfl⟩
      have hTl : T.length = s.size - 4 := by rw [hT, List.length_take]; omega
      rw [← hT] at ho hop
      rcases e1 : getN (T, false) 1 with ⟨kd, s1⟩
      rcases e2 : getN s1 1 with ⟨c, s2⟩
      rcases e3 : getN s2 2 with ⟨a, s3⟩
      rcases e4 : getN s3 2 with ⟨b, s4⟩
      rcases e5 : getN s4 4 with ⟨g, s5⟩
      rcases e6 : getN s5 2 with ⟨r, st⟩
      refine hread_open s ⟨T.toArray⟩ w hop kd c a b g r s1 s2 s3 s4 s5 st e1 e2 e3 e4 e5 e6 (by show T.toArray.size ≤ _; rw [List.size_toArray]; omega) _ ?_
      by_cases h12 : T.length = 12
      · rw [Z2m T 1 (by omega)] at e1
        obtain ⟨rfl, rfl⟩ := Prod.mk.inj e1
        rw [Z2m _ 1 (by rw [List.length_drop]; omega)] at e2
        obtain ⟨hc, rfl⟩ := Prod.mk.inj e2
        rw [List.drop_drop] at e3
        rw [Z2m _ 2 (by rw [List.length_drop]; omega)] at e3
        obtain ⟨ha, rfl⟩ := Prod.mk.inj e3
        rw [List.drop_drop] at e4
        rw [Z2m _ 2 (by rw [List.length_drop]; omega)] at e4
        obtain ⟨hb, rfl⟩ := Prod.mk.inj e4
        rw [List.drop_drop] at e5
        rw [Z2m _ 4 (by rw [List.length_drop]; omega)] at e5
        obtain ⟨hg, rfl⟩ := Prod.mk.inj e5
        rw [List.drop_drop] at e6
        rw [Z2m _ 2 (by rw [List.length_drop]; omega)] at e6
        obtain ⟨hr, rfl⟩ := Prod.mk.inj e6
        simp only [Nat.reduceAdd] at ha hb hg hr hc
        have hdrop : ∀ k n, k + n ≤ 12 → (L.drop k).take n = (T.drop k).take n := by
          intro k n hkn
          rw [← ho]
          unfold sealL
          rw [List.drop_append_of_le_length (by omega), List.take_append_of_le_length (by rw [List.length_drop]; omega)]
        have c1 : hC L = c := by
          have h1 := hdrop 1 1 (by omega)
          rw [← hc, ← h1]
          unfold hC
          rw [take_at L 1 (by omega), Z44]
        have g1 : hG L = g := by unfold hG; rw [hdrop 6 4 (by omega)]; exact hg
        have r1 : hR L = r := by unfold hR; rw [hdrop 10 2 (by omega)]; exact hr
        have a1 : hA L = a := by unfold hA; rw [hdrop 2 2 (by omega)]; exact ha
        have b1 : hB L = b := by unfold hB; rw [hdrop 4 2 (by omega)]; exact hb
        have hst : (List.drop 2 (List.drop (1 + 1 + 2 + 2 + 4) T), false) = (([] : List UInt8), false) := by rw [List.drop_drop, List.drop_of_length_le (by omega)]
        have hT12 := twelve T h12
        have hcT : (T.getD 1 0).toNat = c := by
          rw [← hc, take_at T 1 (by omega), Z44]
        rw [hcT, hg, hr, ha, hb] at hT12
        have hkd : headL g r a b c = T ↔ numL (T.take 1) = 84 := by
          constructor
          · intro h
            rw [hT12]
            have : headL g r a b c = le 84 1 ++ (le c 1 ++ le a 2 ++ le b 2 ++ le g 4 ++ le r 2) := by simp [headL]
            rw [hT12] at h
            rw [this] at h
            have h84 := (List.append_inj (show le 84 1 ++ (le c 1 ++ le a 2 ++ le b 2 ++ le g 4 ++ le r 2) = le (numL (T.take 1)) 1 ++ (le c 1 ++ le a 2 ++ le b 2 ++ le g 4 ++ le r 2) by rw [h]; simp [List.append_assoc]) (by simp [Z0a])).1
            have h5 := congrArg numL h84
            rw [Z22 84 1 (by decide)] at h5
            rw [← hT12]
            have hlt := Z5y (T.take 1)
            rw [List.length_take, Nat.min_eq_left (by omega)] at hlt
            rw [Z22 _ 1 hlt] at h5
            exact h5.symm
          · intro h
            rw [h] at hT12
            rw [hT12]
            simp [headL, List.append_assoc]
        unfold hdRead HeadIs headOf
        rw [g1, r1, a1, b1, c1]
        by_cases hall : numL (T.take 1) = 84 ∧ HeadOk g r a b c
        · rw [if_pos ⟨by omega, hall.2, by rw [hkd.2 hall.1]; exact ho⟩, if_pos ⟨hall.1, hst, hall.2⟩]
          rfl
        · rw [if_neg (fun e => hall ⟨hkd.1 (Z6h (e.2.2.trans ho.symm)), e.2.1⟩), if_neg (fun e => hall ⟨e.1, e.2.2⟩)]
          rfl
      · have hn : hdRead L = .none := by unfold hdRead; rw [if_neg (fun e => h12 (by have := e.1; omega))]
        have hst : st ≠ ([], false) := by
          intro h
          subst h
          obtain ⟨f5, l5⟩ := Z1o e6
          obtain ⟨x5, y5⟩ := s5
          simp only at f5 l5; subst f5
          obtain ⟨f4, l4⟩ := Z1o e5
          obtain ⟨x4, y4⟩ := s4
          simp only at f4 l4; subst f4
          obtain ⟨f3, l3⟩ := Z1o e4
          obtain ⟨x3, y3⟩ := s3
          simp only at f3 l3; subst f3
          obtain ⟨f2, l2⟩ := Z1o e3
          obtain ⟨x2, y2⟩ := s2
          simp only at f2 l2; subst f2
          obtain ⟨f1, l1⟩ := Z1o e2
          obtain ⟨x1, y1⟩ := s1
          simp only at f1 l1; subst f1
          obtain ⟨_, l0⟩ := Z1o e1
          simp only [List.length_nil] at *
          omega
        rw [hn, if_neg (fun e => hst e.2.1)]
        rfl
    · have hn : hdRead L = .none := by
        unfold hdRead
        rw [if_neg]
        intro e
        apply ho
        have h16 := e.1
        have h12 : (headOf L).length = 12 := Z1u _ _ _ _ _
        rw [hL, show s.size - 4 = (headOf L).length by omega]
        have := e.2.2
        have h2 := sealL_take (headOf L)
        rw [this] at h2
        rw [h2]
        exact this
      rw [hn]
      exact Z3x s w (fun W => open_no s W (by omega) (by omega) ho)
end Go.Proofs.YtakkhglbdljfiaaGreatDoor
