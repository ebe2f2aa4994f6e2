/- The walk of head's reference: Bytes. -/
import Derived.Test.YtakkhglbdljfiaaGreatDoorKStoreExact11
import Derived.RegionTactic
import Derived.Test.YtakkhglbdljfiaaGreatDoorKStoreExact00
import Derived.Test.YtakkhglbdljfiaaGreatDoorKStoreExact08
import Derived.Lib.Strings
import Derived.Test.YtakkhglbdljfiaaGreatDoorKStoreExact06
import Derived.Test.YtakkhglbdljfiaaGreatDoorKStoreExact07
namespace Go.Proofs.YtakkhglbdljfiaaGreatDoor
attribute [local simp] BigFrame.eval_const BigFrame.eval_global BigFrame.eval_func
set_option linter.unusedVariables false
set_option linter.unusedSimpArgs false
open Go.RowKit

end Go.Proofs.YtakkhglbdljfiaaGreatDoor

/- The walks of package head: Read. -/
namespace Go.Proofs.YtakkhglbdljfiaaGreatDoor
set_option linter.unusedVariables false
set_option linter.unusedSimpArgs false
open Go.RowKit

set_option maxHeartbeats 1000000 in
theorem Z4f (s : ByteArray) (w : World) (h : ∀ W : World, Calls Tryz.prog 95 #[.string s] W fun e w' => e = .returned (.tuple #[.string ⟨#[]⟩, .bool false]) ∧ Below W.heap.size W w') :
    Calls Tryz.prog 99 #[.string s] w fun e w' => e = .returned (.tuple #[headV 0 0 0 0 0, .int .i64 3]) ∧ Below w.heap.size w w' := by
  have H := Lib.hid h
  clear h
  go_enter Tryz.func99, Tryz.ntmps99
  go_wp2_with fail
  refine (H.out _).mono ?_
  rintro e w1 ⟨rfl, hw1⟩; obtain ⟨hcw1, hfw1⟩ := bcell hw1; have hsw1 := hw1.size; (try simp at hsw1)
  have z0 : w.heap.size < w1.heap.size := by omega
  have hb : Below w.heap.size w w1 := Below.trans (by (repeat (first | with_reducible exact Below.refl _ _ | with_reducible assumption | with_reducible apply Below.drew | with_reducible apply Z0g | (with_reducible refine Z0n ?_ ?_; focus ((try simp); (try omega); done)) | (with_reducible refine Z0o ?_ ?_; focus ((try simp); (try omega); done))))) (hw1.mono (by simp))
  go_wp2_with fail
  exact bodyPost_ret (v := .tuple #[headV 0 0 0 0 0, .int .i64 3]) (by simp [results, Tryz.results99, go_sem, hcw1, z0]) rfl ⟨rfl, by (repeat (first | with_reducible exact Below.refl _ _ | with_reducible assumption | with_reducible apply Below.drew | with_reducible apply Z0g | (with_reducible refine Z0n ?_ ?_; focus ((try simp); (try omega); done)) | (with_reducible refine Z0o ?_ ?_; focus ((try simp); (try omega); done))))⟩

theorem Z1x {w : World} {H : Nat} {x0 x1 x2 x3 x4 : Value} (h : Blk w H 39 #[x0, x1, x2, x3, x4]) (y0 y1 y2 y3 y4 : Value) :
    Blk (((((w.setCell ⟨H, 0, none⟩ y0).setCell ⟨H, 1, none⟩ y1).setCell ⟨H, 2, none⟩ y2).setCell ⟨H, 3, none⟩ y3).setCell ⟨H, 4, none⟩ y4) H 39 #[y0, y1, y2, y3, y4] := by
  have := ((((h.set_ 0 y0).set_ 1 y1).set_ 2 y2).set_ 3 y3).set_ 4 y4
  simpa using this

theorem Z2u {R : Ending → World → Prop} {ac : Act} {w : World} {H : Nat} {g : Nat} {r a b c x : Int} (h2 : ac.tmps[2]?.getD undef = .pointer (some ⟨H, 0, none⟩)) (h3 : ac.tmps[3]?.getD undef = .int .i64 x) (hd : ac.defers = [])
    (hF : Blk w H 39 #[.int .u64 g, .int .i64 r, .int .i64 a, .int .i64 b, .int .i64 c]) (hR : R (.returned (.tuple #[headV g r a b c, .int .i64 x])) w) : bodyPost Tryz.prog Tryz.f99 R .ret ac w := by
  obtain ⟨tm, df⟩ := ac
  simp only at h2 h3 hd
  have p0 := hF.cell 0
  have p1 := hF.cell 1
  have p2 := hF.cell 2
  have p3 := hF.cell 3
  have p4 := hF.cell 4
  exact bodyPost_ret (v := .tuple #[headV g r a b c, .int .i64 x]) (by simp [results, Tryz.results99, go_sem, h2, h3, p0, p1, p2, p3, p4]) hd hR

set_option maxHeartbeats 1000000 in
theorem hread_open (s T : ByteArray) (w : World) (h : ∀ W : World, Calls Tryz.prog 95 #[.string s] W fun e w' => e = .returned (.tuple #[.string T, .bool true]) ∧ Below W.heap.size W w')
    (kd c a b g r : Nat) (s1 s2 s3 s4 s5 st : List UInt8 × Bool) (e1 : getN (T.data.toList, false) 1 = (kd, s1)) (e2 : getN s1 1 = (c, s2)) (e3 : getN s2 2 = (a, s3)) (e4 : getN s3 2 = (b, s4)) (e5 : getN s4 4 = (g, s5)) (e6 : getN s5 2 = (r, st))
    (hT : T.size ≤ 1000000) (V : Value) (hV : V = if kd = 84 ∧ st = ([], false) ∧ HeadOk g r a b c then .tuple #[headV g r a b c, .int .i64 0] else .tuple #[headV 0 0 0 0 0, .int .i64 3]) :
    Calls Tryz.prog 99 #[.string s] w fun e w' => e = .returned V ∧ Below w.heap.size w w' := by
  have hTl : T.data.toList.length ≤ 1000000 := by simpa using hT
  have l1 : s1.1.length ≤ 1000000 := by have := Z22 (T.data.toList, false) 1; rw [e1] at this; simp only at this; omega
  have l2 : s2.1.length ≤ 1000000 := by have := Z22 s1 1; rw [e2] at this; simp only at this; omega
  have l3 : s3.1.length ≤ 1000000 := by have := Z22 s2 2; rw [e3] at this; simp only at this; omega
  have l4 : s4.1.length ≤ 1000000 := by have := Z22 s3 2; rw [e4] at this; simp only at this; omega
  have l5 : s5.1.length ≤ 1000000 := by have := Z22 s4 4; rw [e5] at this; simp only at this; omega
  have bc := Z5g s1 1
  have ba := Z5g s2 2
  have bb := Z5g s3 2
  have bg := Z5g s4 4
  have br := Z5g s5 2
  rw [e2] at bc
  rw [e3] at ba
  rw [e4] at bb
  rw [e5] at bg
  rw [e6] at br
  simp only [Nat.reducePow] at bc ba bb bg br
  have E1 := Lib.hid e1
  have E2 := Lib.hid e2
  have E3 := Lib.hid e3
  have E4 := Lib.hid e4
  have E5 := Lib.hid e5
  have E6 := Lib.hid e6
  have H := Lib.hid h
  have HV := Lib.hid hV
  clear hV
  obtain ⟨q, hq⟩ : ∃ q : Bool, ((kd : Int) == 84) = q := ⟨_, rfl⟩
  clear h e1 e2 e3 e4 e5 e6 hT
  go_enter Tryz.func99, Tryz.ntmps99
  go_wp2_with fail
  refine (H.out _).mono ?_
  rintro e w1 ⟨rfl, hw1⟩
  have hA : Blk w1 w.heap.size 39 #[.int .u64 0, .int .i64 0, .int .i64 0, .int .i64 0, .int .i64 0] := (Blk.new w 39 _).below hw1 (by simp)
  have hz := hA.lt
  have hb0 : Below w.heap.size w w1 := Below.trans (by (repeat (first | with_reducible exact Below.refl _ _ | with_reducible assumption | with_reducible apply Below.drew | with_reducible apply Z0g | (with_reducible refine Z0n ?_ ?_; focus ((try simp); (try omega); done)) | (with_reducible refine Z0o ?_ ?_; focus ((try simp); (try omega); done))))) (hw1.mono (by simp))
  have Hw1 := Lib.hid hb0
  have HA := Lib.hid hA
  clear hw1 H hb0 hA
  go_wp2_with fail
  refine (rs_of T w1).mono ?_
  rintro e w2 ⟨rfl, R0⟩
  go_wp2_with fail
  refine (Z5z R0 1 (by decide) (by decide) hTl).mono ?_
  rw [E1.out]
  rintro e w3 ⟨rfl, R1, -, z3⟩
  clear R0
  go_wp2_with fail
  refine (Z5z R1 1 (by decide) (by decide) l1).mono ?_
  rw [E2.out]
  rintro e w4 ⟨rfl, R2, -, z4⟩
  have hzB := R2.size
  clear R1
  have hR2 := Lib.hid R2
  clear R2
  go_wp2_with fail
  go_loopw [9, 27] (fun _ i wr => ∃ (j A' B' : Nat) (sj : List UInt8 × Bool), j ≤ 2 ∧ i = .int .i64 j ∧ Rs w1 w1.heap.size sj wr ∧ Blk wr w4.heap.size 39 #[.int .u64 0, .int .i64 0, .int .i64 A', .int .i64 B', .int .i64 c] ∧ Hid ((j = 0 → sj = s2 ∧ A' = 0 ∧ B' = 0) ∧ (j = 1 → sj = s3 ∧ A' = a ∧ B' = 0) ∧ (j = 2 → sj = s4 ∧ A' = a ∧ B' = b))) (fun _ i _ => 2 - (intOf i).toNat)
  case atStart =>
    refine ⟨0, 0, 0, s2, by omega, rfl, ?_, ?_, by simp [Hid]⟩
    · exact hR2.out.alloc _
    · exact Blk.new _ _ _
  case round =>
    obtain ⟨j, A', B', sj, hj, rfl, R, hD, HJ⟩ := hrel
    rcases (show j = 0 ∨ j = 1 ∨ j = 2 by omega) with rfl | rfl | rfl
    · obtain ⟨rfl, rfl, rfl⟩ := HJ.out.1 rfl
      go_wp2_with fail
      refine (Z5z R 2 (by decide) (by decide) l2).mono ?_
      rw [E3.out]
      rintro e w5 ⟨rfl, R3, hk5, z5⟩
      have hD5 := hk5 _ _ _ (by omega) hD
      clear R hD
      have f2 := hD5.frozen 2
      have q2 := hD5.cell 2
      go_wp2_with fail
      go_roundw
      case rel => exact ⟨1, a, 0, s3, by omega, rfl, R3.set_ _ (by simp; omega), hD5.set_ 2 _, by simp [Hid]⟩
      case measure => simp [intOf]
    · obtain ⟨rfl, rfl, rfl⟩ := HJ.out.2.1 rfl
      go_wp2_with fail
      refine (Z5z R 2 (by decide) (by decide) l3).mono ?_
      rw [E4.out]
      rintro e w5 ⟨rfl, R3, hk5, z5⟩
      have hD5 := hk5 _ _ _ (by omega) hD
      clear R hD
      have f3 := hD5.frozen 3
      have q3 := hD5.cell 3
      go_wp2_with fail
      go_roundw
      case rel => exact ⟨2, A', b, s4, by omega, rfl, R3.set_ _ (by simp; omega), hD5.set_ 3 _, by simp [Hid]⟩
      case measure => simp [intOf]
    · obtain ⟨rfl, rfl, rfl⟩ := HJ.out.2.2 rfl
      go_wp2_with fail
      refine (Z5z R 4 (by decide) (by decide) l4).mono ?_
      rw [E5.out]
      rintro e w5 ⟨rfl, R5, hk5, z5⟩
      have hD5 := hk5 _ _ _ (by omega) hD
      clear R hD hk5
      have f0 := hD5.frozen 0
      have q0 := hD5.cell 0
      have R5' := R5.set_ (p := ⟨w4.heap.size, 0, none⟩) (.int .u64 g) (by simp; omega)
      have hD5' := hD5.set_ 0 (.int .u64 g)
      have zz5 : w5.heap.size = (w5.setCell ⟨w4.heap.size, 0, none⟩ (.int .u64 g)).heap.size := by simp
      go_wp2_with fail
      refine (Z5z R5' 2 (by decide) (by decide) l5).mono ?_
      rw [E6.out]
      rintro e w6 ⟨rfl, R6, hk6, z6⟩
      have hD6 := hk6 _ _ _ (by omega) hD5'
      clear R5 R5' hD5 hD5' f0 q0 hk6
      have f1 := hD6.frozen 1
      have q1 := hD6.cell 1
      have R7 := R6.set_ (p := ⟨w4.heap.size, 1, none⟩) (.int .i64 r) (by simp; omega)
      have hD7 := hD6.set_ 1 (.int .i64 r)
      have zD := hD6.lt
      clear hD6 R6
      simp at hD7
      generalize hw7 : w6.setCell ⟨w4.heap.size, 1, none⟩ (.int .i64 r) = w7 at R7 hD7
      have zD7 := hD7.lt
      have A7 : Blk w7 w.heap.size 39 #[.int .u64 0, .int .i64 0, .int .i64 0, .int .i64 0, .int .i64 0] := HA.out.below R7.below hz
      have zA7 := A7.lt
      have B7 : Below w.heap.size w w7 := Hw1.out.trans (R7.below.mono (Nat.le_of_lt hz))
      have d0 := hD7.cell 0
      have d1 := hD7.cell 1
      have d2 := hD7.cell 2
      have d3 := hD7.cell 3
      have d4 := hD7.cell 4
      have a0 := A7.cell 0
      have a1 := A7.cell 1
      have a2 := A7.cell 2
      have a3 := A7.cell 3
      have a4 := A7.cell 4
      have y0 := A7.frozen 0
      have y1 := A7.frozen 1
      have y2 := A7.frozen 2
      have y3 := A7.frozen 3
      have y4 := A7.frozen 4
      have HR := Lib.hid R7
      have HB := Lib.hid B7
      clear R7 B7 HA HJ Hw1 hR2 z3 z4 zz5
      have HA7 := Lib.hid A7
      have HD7 := Lib.hid hD7
      clear A7 hD7
      cases q with
      | false =>
        have hk : ¬ kd = 84 := by intro e; subst e; simp at hq
        have hif : V = .tuple #[headV 0 0 0 0 0, .int .i64 3] := by rw [HV.out, if_neg (fun h => hk h.1)]
        have HI := Lib.hid hif
        clear hq hif HV
        go_wp2_with fail
        have hb7 := HB.out
        have hF := Z1x HA7.out (.int .u64 ((0 : Nat) : Int)) (.int .i64 0) (.int .i64 0) (.int .i64 0) (.int .i64 0)
        exact Z2u rfl rfl rfl hF ⟨by rw [HI.out] <;> rfl, by (repeat (first | with_reducible exact Below.refl _ _ | with_reducible assumption | with_reducible apply Below.drew | with_reducible apply Z0g | (with_reducible refine Z0n ?_ ?_; focus ((try simp); (try omega); done)) | (with_reducible refine Z0o ?_ ?_; focus ((try simp); (try omega); done))))⟩
      | true =>
        have hk : kd = 84 := by simp at hq; omega
        subst hk
        by_cases hst : st = ([], false)
        · subst hst
          by_cases hg : HeadOk g r A' B' c
          · have HG := Lib.hid (fun W => Z7r g r A' B' c W hg)
            have hif : V = .tuple #[headV g r A' B' c, .int .i64 0] := by rw [HV.out, if_pos ⟨rfl, rfl, hg⟩]
            have HI := Lib.hid hif
            clear hg hq hif HV
            go_wp2_with fail
            refine (Z60 HR.out).mono ?_
            rintro e w8 ⟨rfl, rfl⟩
            go_wp2_with fail
            refine (HG.out _).mono ?_
            rintro e w8 ⟨rfl, hw8⟩
            have A8 := HA7.out.below hw8 zA7
            have D8 := HD7.out.below hw8 zD7
            have B8 := HB.out.trans (hw8.mono (Nat.le_of_lt zA7))
            clear d0 d1 d2 d3 d4 a0 a1 a2 a3 a4 y0 y1 y2 y3 y4 HG
            have a0 := A8.cell 0
            have a1 := A8.cell 1
            have a2 := A8.cell 2
            have a3 := A8.cell 3
            have a4 := A8.cell 4
            have y0 := A8.frozen 0
            have y1 := A8.frozen 1
            have y2 := A8.frozen 2
            have y3 := A8.frozen 3
            have y4 := A8.frozen 4
            have d0 := D8.cell 0
            have d1 := D8.cell 1
            have d2 := D8.cell 2
            have d3 := D8.cell 3
            have d4 := D8.cell 4
            have HA8 := Lib.hid A8
            have HB8 := Lib.hid B8
            clear A8 B8 D8 hw8
            go_wp2_with fail
            have hb7 := HB8.out
            have hF := Z1x HA8.out (.int .u64 g) (.int .i64 r) (.int .i64 A') (.int .i64 B') (.int .i64 c)
            exact Z2u rfl rfl rfl hF ⟨by rw [HI.out] <;> rfl, by (repeat (first | with_reducible exact Below.refl _ _ | with_reducible assumption | with_reducible apply Below.drew | with_reducible apply Z0g | (with_reducible refine Z0n ?_ ?_; focus ((try simp); (try omega); done)) | (with_reducible refine Z0o ?_ ?_; focus ((try simp); (try omega); done))))⟩
          · have HG := Lib.hid (fun W => hgood_no g r A' B' c W hg)
            have hif : V = .tuple #[headV 0 0 0 0 0, .int .i64 3] := by rw [HV.out, if_neg (fun h => hg h.2.2)]
            have HI := Lib.hid hif
            clear hg hq hif HV
            go_wp2_with fail
            refine (Z60 HR.out).mono ?_
            rintro e w8 ⟨rfl, rfl⟩
            go_wp2_with fail
            refine (HG.out _).mono ?_
            rintro e w8 ⟨rfl, hw8⟩
            have A8 := HA7.out.below hw8 zA7
            have D8 := HD7.out.below hw8 zD7
            have B8 := HB.out.trans (hw8.mono (Nat.le_of_lt zA7))
            clear d0 d1 d2 d3 d4 a0 a1 a2 a3 a4 y0 y1 y2 y3 y4 HG
            have a0 := A8.cell 0
            have a1 := A8.cell 1
            have a2 := A8.cell 2
            have a3 := A8.cell 3
            have a4 := A8.cell 4
            have y0 := A8.frozen 0
            have y1 := A8.frozen 1
            have y2 := A8.frozen 2
            have y3 := A8.frozen 3
            have y4 := A8.frozen 4
            have d0 := D8.cell 0
            have d1 := D8.cell 1
            have d2 := D8.cell 2
            have d3 := D8.cell 3
            have d4 := D8.cell 4
            have HA8 := Lib.hid A8
            have HB8 := Lib.hid B8
            clear A8 B8 D8 hw8
            go_wp2_with fail
            have hb7 := HB8.out
            have hF := Z1x HA8.out (.int .u64 ((0 : Nat) : Int)) (.int .i64 0) (.int .i64 0) (.int .i64 0) (.int .i64 0)
            exact Z2u rfl rfl rfl hF ⟨by rw [HI.out] <;> rfl, by (repeat (first | with_reducible exact Below.refl _ _ | with_reducible assumption | with_reducible apply Below.drew | with_reducible apply Z0g | (with_reducible refine Z0n ?_ ?_; focus ((try simp); (try omega); done)) | (with_reducible refine Z0o ?_ ?_; focus ((try simp); (try omega); done))))⟩
        · have hif : V = .tuple #[headV 0 0 0 0 0, .int .i64 3] := by rw [HV.out, if_neg (fun h => hst h.2.1)]
          have HI := Lib.hid hif
          have HS := Lib.hid hst
          clear hq hif HV hst
          go_wp2_with fail
          refine (rs_end_no HR.out HS.out).mono ?_
          rintro e w8 ⟨rfl, rfl⟩
          go_wp2_with fail
          have hb7 := HB.out
          have hF := Z1x HA7.out (.int .u64 ((0 : Nat) : Int)) (.int .i64 0) (.int .i64 0) (.int .i64 0) (.int .i64 0)
          exact Z2u rfl rfl rfl hF ⟨by rw [HI.out] <;> rfl, by (repeat (first | with_reducible exact Below.refl _ _ | with_reducible assumption | with_reducible apply Below.drew | with_reducible apply Z0g | (with_reducible refine Z0n ?_ ?_; focus ((try simp); (try omega); done)) | (with_reducible refine Z0o ?_ ?_; focus ((try simp); (try omega); done))))⟩
end Go.Proofs.YtakkhglbdljfiaaGreatDoor

/- The walk of head's reference: Read. -/
namespace Go.Proofs.YtakkhglbdljfiaaGreatDoor
attribute [local simp] BigFrame.eval_const BigFrame.eval_global BigFrame.eval_func
set_option linter.unusedVariables false
set_option linter.unusedSimpArgs false
open Go.RowKit

end Go.Proofs.YtakkhglbdljfiaaGreatDoor

/- The walk of head.Newest, of whatever reading gives. -/
namespace Go.Proofs.YtakkhglbdljfiaaGreatDoor
set_option linter.unusedVariables false
set_option linter.unusedSimpArgs false
open Go.RowKit

/-- What a reading gives: a head, or none (then its cells are zeros). -/
structure HeadR where
  ok : Bool
  g : Nat
  r : Int
  a : Int
  b : Int
  c : Int
def HeadR.none : HeadR := ⟨false, 0, 0, 0, 0, 0⟩
abbrev HeadR.v (x : HeadR) : Value := headV x.g x.r x.a x.b x.c
def HeadR.e (x : HeadR) : Int := if x.ok then 0 else 3
def Reads (s : ByteArray) (x : HeadR) : Prop := ∀ w : World, Calls Tryz.prog 99 #[.string s] w fun e w' => e = .returned (.tuple #[x.v, .int .i64 x.e]) ∧ Below w.heap.size w w'

/-- The newest of two readings. -/
def newest (x y : HeadR) : HeadR × Int :=
  if x.ok = true ∧ (y.ok = false ∨ y.g ≤ x.g) then (x, 0) else if y.ok = true then (y, 1) else (.none, 0)

theorem Z21 {R : Ending → World → Prop} {ac : Act} {w : World} {H : Nat} {g : Nat} {r a b c x y : Int} (h2 : ac.tmps[4]?.getD undef = .pointer (some ⟨H, 0, none⟩)) (h3 : ac.tmps[5]?.getD undef = .int .i64 x) (h4 : ac.tmps[6]?.getD undef = .int .i64 y) (hd : ac.defers = [])
    (hF : Blk w H 39 #[.int .u64 g, .int .i64 r, .int .i64 a, .int .i64 b, .int .i64 c]) (hR : R (.returned (.tuple #[headV g r a b c, .int .i64 x, .int .i64 y])) w) : bodyPost Tryz.prog Tryz.f65 R .ret ac w := by
  obtain ⟨tm, df⟩ := ac
  simp only at h2 h3 h4 hd
  have p0 := hF.cell 0
  have p1 := hF.cell 1
  have p2 := hF.cell 2
  have p3 := hF.cell 3
  have p4 := hF.cell 4
  exact bodyPost_ret (v := .tuple #[headV g r a b c, .int .i64 x, .int .i64 y]) (by simp [results, Tryz.results65, go_sem, h2, h3, h4, p0, p1, p2, p3, p4]) hd hR

set_option maxHeartbeats 1000000 in
theorem newest_any (s t : ByteArray) (x y : HeadR) (hx : Reads s x) (hy : Reads t y) (w : World) (V : Value) (hV : V = .tuple #[(newest x y).1.v, .int .i64 (newest x y).2, .int .i64 (newest x y).1.e]) :
    Calls Tryz.prog 65 #[.string s, .string t] w fun e w' => e = .returned V ∧ Below w.heap.size w w' := by
  have HV := Lib.hid hV
  clear hV
  obtain ⟨xo, xg, xr, xa, xb, xc⟩ := x
  obtain ⟨yo, yg, yr, ya, yb, yc⟩ := y
  unfold Reads at hx hy
  simp only [HeadR.v, HeadR.e] at hx hy
  generalize hxe : (if xo = true then (0 : Int) else 3) = xe at hx
  generalize hye : (if yo = true then (0 : Int) else 3) = ye at hy
  have HX := Lib.hid hx
  have HY := Lib.hid hy
  clear hx hy
  have vx : xo = true → (yo = false ∨ yg ≤ xg) → V = .tuple #[headV xg xr xa xb xc, .int .i64 0, .int .i64 0] := by
    intro h1 h2; rw [HV.out]; unfold newest; rw [if_pos ⟨h1, h2⟩]; simp [HeadR.v, HeadR.e, h1]
  have vy : ¬ (xo = true ∧ (yo = false ∨ yg ≤ xg)) → yo = true → V = .tuple #[headV yg yr ya yb yc, .int .i64 1, .int .i64 0] := by
    intro h1 h2; rw [HV.out]; unfold newest; rw [if_neg h1, if_pos h2]; simp [HeadR.v, HeadR.e, h2]
  have vz : xo = false → yo = false → V = .tuple #[headV 0 0 0 0 0, .int .i64 0, .int .i64 3] := by
    intro h1 h2; rw [HV.out]; subst h1 h2; rfl
  have VX := Lib.hid vx
  have VY := Lib.hid vy
  have VZ := Lib.hid vz
  clear vx vy vz HV
  go_enter Tryz.func65, Tryz.ntmps65
  go_wp2_with fail
  refine (HX.out _).mono ?_
  rintro e w1 ⟨rfl, hw1⟩
  have hA : Blk w1 w.heap.size 39 #[.int .u64 0, .int .i64 0, .int .i64 0, .int .i64 0, .int .i64 0] := (Blk.new w 39 _).below hw1 (by simp)
  have hz := hA.lt
  have hb1 : Below w.heap.size w w1 := Below.trans (by (repeat (first | with_reducible exact Below.refl _ _ | with_reducible assumption | with_reducible apply Below.drew | with_reducible apply Z0g | (with_reducible refine Z0n ?_ ?_; focus ((try simp); (try omega); done)) | (with_reducible refine Z0o ?_ ?_; focus ((try simp); (try omega); done))))) (hw1.mono (by simp))
  have HA := Lib.hid hA
  have HB := Lib.hid hb1
  clear hw1 hb1 hA
  go_wp2_with fail
  refine (HY.out _).mono ?_
  rintro e w2 ⟨rfl, hw2⟩
  have X2 : Blk w2 w1.heap.size 39 #[.int .u64 xg, .int .i64 xr, .int .i64 xa, .int .i64 xb, .int .i64 xc] := (Blk.new w1 39 _).below hw2 (by simp)
  have A2 : Blk w2 w.heap.size 39 #[.int .u64 0, .int .i64 0, .int .i64 0, .int .i64 0, .int .i64 0] := (HA.out.alloc (.cells #[.int .u64 xg, .int .i64 xr, .int .i64 xa, .int .i64 xb, .int .i64 xc] 39)).below hw2 (by simp; omega)
  have B2 : Below w.heap.size w w2 := (HB.out.alloc (Nat.le_of_lt hz) (.cells #[.int .u64 xg, .int .i64 xr, .int .i64 xa, .int .i64 xb, .int .i64 xc] 39)).trans (hw2.mono (by simp; omega))
  have hsz2 := X2.lt
  have zA2 := A2.lt
  have X3 := X2.alloc (.cells #[.int .u64 yg, .int .i64 yr, .int .i64 ya, .int .i64 yb, .int .i64 yc] 39)
  have A3 := A2.alloc (.cells #[.int .u64 yg, .int .i64 yr, .int .i64 ya, .int .i64 yb, .int .i64 yc] 39)
  have Y3 := Blk.new w2 39 #[.int .u64 yg, .int .i64 yr, .int .i64 ya, .int .i64 yb, .int .i64 yc]
  have B3 := B2.alloc (Nat.le_of_lt zA2) (.cells #[.int .u64 yg, .int .i64 yr, .int .i64 ya, .int .i64 yb, .int .i64 yc] 39)
  have HX2 := Lib.hid X3
  have HA2 := Lib.hid A3
  have HY2 := Lib.hid Y3
  have HB2 := Lib.hid B3
  clear A2 B2 X2 hw2 HA HB HX HY X3 A3 Y3 B3
  go_upto_region 3 with fail
  generalize w2.alloc (.cells #[.int .u64 yg, .int .i64 yr, .int .i64 ya, .int .i64 yb, .int .i64 yc] 39) = w3 at HX2 HA2 HY2 HB2 ⊢
  have x0 := HX2.out.cell 0
  have x1 := HX2.out.cell 1
  have x2 := HX2.out.cell 2
  have x3 := HX2.out.cell 3
  have x4 := HX2.out.cell 4
  have v0 := HY2.out.cell 0
  have v1 := HY2.out.cell 1
  have v2 := HY2.out.cell 2
  have v3 := HY2.out.cell 3
  have v4 := HY2.out.cell 4
  have a0 := HA2.out.cell 0
  have a1 := HA2.out.cell 1
  have a2 := HA2.out.cell 2
  have a3 := HA2.out.cell 3
  have a4 := HA2.out.cell 4
  have y0 := HA2.out.frozen 0
  have y1 := HA2.out.frozen 1
  have y2 := HA2.out.frozen 2
  have y3 := HA2.out.frozen 3
  have y4 := HA2.out.frozen 4
  cases xo with
  | true =>
    obtain rfl : xe = 0 := by rw [← hxe]; rfl
    cases yo with
    | true =>
      obtain rfl : ye = 0 := by rw [← hye]; rfl
      by_cases hc : yg ≤ xg
      · have hif : V = .tuple #[headV xg xr xa xb xc, .int .i64 0, .int .i64 0] := VX.out rfl (.inr hc)
        have HI := Lib.hid hif
        clear hif VX VY VZ
        go_wp2_with fail
        have hb7 := HB2.out
        exact Z21 rfl rfl rfl rfl (Z1x HA2.out (.int .u64 xg) (.int .i64 xr) (.int .i64 xa) (.int .i64 xb) (.int .i64 xc)) ⟨by rw [HI.out] <;> rfl, by (repeat (first | with_reducible exact Below.refl _ _ | with_reducible assumption | with_reducible apply Below.drew | with_reducible apply Z0g | (with_reducible refine Z0n ?_ ?_; focus ((try simp); (try omega); done)) | (with_reducible refine Z0o ?_ ?_; focus ((try simp); (try omega); done))))⟩
      · have hc2 : xg < yg := by omega
        have hif : V = .tuple #[headV yg yr ya yb yc, .int .i64 1, .int .i64 0] := VY.out (fun h => by rcases h.2 with h | h; cases h; omega) rfl
        have HI := Lib.hid hif
        clear hif VX VY VZ
        go_wp2_with fail
        have hb7 := HB2.out
        exact Z21 rfl rfl rfl rfl (Z1x HA2.out (.int .u64 yg) (.int .i64 yr) (.int .i64 ya) (.int .i64 yb) (.int .i64 yc)) ⟨by rw [HI.out] <;> rfl, by (repeat (first | with_reducible exact Below.refl _ _ | with_reducible assumption | with_reducible apply Below.drew | with_reducible apply Z0g | (with_reducible refine Z0n ?_ ?_; focus ((try simp); (try omega); done)) | (with_reducible refine Z0o ?_ ?_; focus ((try simp); (try omega); done))))⟩
    | false =>
      obtain rfl : ye = 3 := by rw [← hye]; rfl
      have hif : V = .tuple #[headV xg xr xa xb xc, .int .i64 0, .int .i64 0] := VX.out rfl (.inl rfl)
      have HI := Lib.hid hif
      clear hif VX VY VZ
      go_wp2_with fail
      have hb7 := HB2.out
      exact Z21 rfl rfl rfl rfl (Z1x HA2.out (.int .u64 xg) (.int .i64 xr) (.int .i64 xa) (.int .i64 xb) (.int .i64 xc)) ⟨by rw [HI.out] <;> rfl, by (repeat (first | with_reducible exact Below.refl _ _ | with_reducible assumption | with_reducible apply Below.drew | with_reducible apply Z0g | (with_reducible refine Z0n ?_ ?_; focus ((try simp); (try omega); done)) | (with_reducible refine Z0o ?_ ?_; focus ((try simp); (try omega); done))))⟩
  | false =>
    obtain rfl : xe = 3 := by rw [← hxe]; rfl
    cases yo with
    | true =>
      obtain rfl : ye = 0 := by rw [← hye]; rfl
      have hif : V = .tuple #[headV yg yr ya yb yc, .int .i64 1, .int .i64 0] := VY.out (fun h => by cases h.1) rfl
      have HI := Lib.hid hif
      clear hif VX VY VZ
      go_wp2_with fail
      have hb7 := HB2.out
      exact Z21 rfl rfl rfl rfl (Z1x HA2.out (.int .u64 yg) (.int .i64 yr) (.int .i64 ya) (.int .i64 yb) (.int .i64 yc)) ⟨by rw [HI.out] <;> rfl, by (repeat (first | with_reducible exact Below.refl _ _ | with_reducible assumption | with_reducible apply Below.drew | with_reducible apply Z0g | (with_reducible refine Z0n ?_ ?_; focus ((try simp); (try omega); done)) | (with_reducible refine Z0o ?_ ?_; focus ((try simp); (try omega); done))))⟩
    | false =>
      obtain rfl : ye = 3 := by rw [← hye]; rfl
      have hif : V = .tuple #[headV 0 0 0 0 0, .int .i64 0, .int .i64 3] := VZ.out rfl rfl
      have HI := Lib.hid hif
      clear hif VX VY VZ
      go_wp2_with fail
      have hb7 := HB2.out
      exact Z21 rfl rfl rfl rfl (Z1x HA2.out (.int .u64 ((0 : Nat) : Int)) (.int .i64 0) (.int .i64 0) (.int .i64 0) (.int .i64 0)) ⟨by rw [HI.out] <;> rfl, by (repeat (first | with_reducible exact Below.refl _ _ | with_reducible assumption | with_reducible apply Below.drew | with_reducible apply Z0g | (with_reducible refine Z0n ?_ ?_; focus ((try simp); (try omega); done)) | (with_reducible refine Z0o ?_ ?_; focus ((try simp); (try omega); done))))⟩

def hG (L : List UInt8) : Nat := numL ((L.drop 6).take 4)
def hR (L : List UInt8) : Nat := numL ((L.drop 10).take 2)
def hA (L : List UInt8) : Nat := numL ((L.drop 2).take 2)
def hB (L : List UInt8) : Nat := numL ((L.drop 4).take 2)
def hC (L : List UInt8) : Nat := (L.getD 1 0).toNat
def headOf (L : List UInt8) : List UInt8 := headL (hG L) (hR L) (hA L) (hB L) (hC L)
abbrev HeadIs (L : List UInt8) : Prop := L.length = 16 ∧ HeadOk (hG L) (hR L) (hA L) (hB L) (hC L) ∧ sealL (headOf L) = L
def hdRead (L : List UInt8) : HeadR := if HeadIs L then ⟨true, hG L, hR L, hA L, hB L, hC L⟩ else .none

theorem Z1z {st : List UInt8 × Bool} {k n : Nat} {l : List UInt8} (h : getN st k = (n, (l, false))) : st.2 = false ∧ st.1.length = k + l.length := by
  unfold getN at h
  split at h
  · rename_i hk
    simp only [Prod.mk.injEq] at h
    obtain ⟨_, h1, h2⟩ := h
    refine ⟨h2, ?_⟩
    rw [← h1, List.length_drop]
    omega
  · simp at h
theorem Z2w (l : List UInt8) (k : Nat) (h : k ≤ l.length) : getN (l, false) k = (numL (l.take k), (l.drop k, false)) := by
  unfold getN; rw [if_pos h]
theorem take_at (l : List UInt8) (k : Nat) (h : k < l.length) : (l.drop k).take 1 = [l.getD k 0] := by
  rw [List.drop_eq_getElem_cons h, List.take_succ_cons, List.take_zero]
  simp [List.getD, List.getElem?_eq_getElem h]
theorem Z4o (x : UInt8) : numL [x] = x.toNat := by simp [numL]
theorem Z5d (l : List UInt8) (k n : Nat) (h : k + n ≤ l.length) : le (numL ((l.drop k).take n)) n = (l.drop k).take n := by
  have := Z6w ((l.drop k).take n)
  rwa [show ((l.drop k).take n).length = n by rw [List.length_take, List.length_drop]; omega] at this

/-- Twelve bytes are a head's parts. -/
theorem twelve (T : List UInt8) (h : T.length = 12) : T = le (numL (T.take 1)) 1 ++ le (T.getD 1 0).toNat 1 ++ le (numL ((T.drop 2).take 2)) 2 ++ le (numL ((T.drop 4).take 2)) 2 ++ le (numL ((T.drop 6).take 4)) 4 ++ le (numL ((T.drop 10).take 2)) 2 := by
  rw [Z5d T 2 2 (by omega), Z5d T 4 2 (by omega), Z5d T 6 4 (by omega), Z5d T 10 2 (by omega)]
  have h0 := Z5d T 0 1 (by omega)
  rw [List.drop_zero] at h0
  rw [h0]
  match T, h with
  | [a, b, c, d, e, f, g, i, j, k, l, m], _ =>
    have : le b.toNat 1 = [b] := by
      have := Z6w [b]
      rwa [Z4o] at this
    simp [this]

theorem Z7c {a b : List UInt8} (h : sealL a = sealL b) : a = b := by
  have hl := congrArg List.length h
  rw [Z1t, Z1t] at hl
  unfold sealL at h
  exact (List.append_inj h (by omega)).1
theorem sealL_take (a : List UInt8) : (sealL a).take a.length = a := by unfold sealL; rw [List.take_left']; rfl

theorem hreads_any (s : ByteArray) (hs : s.size ≤ 1000000) : Reads s (hdRead s.data.toList) := by
  intro w
  have hl : s.data.toList.length = s.size := by simp
  generalize hL : s.data.toList = L at hl
  by_cases h4 : s.size < 4
  · have : hdRead L = .none := by unfold hdRead; rw [if_neg (fun e => by have := e.1; omega)]
    rw [this]
    exact Z4f s w (fun W => (Z67 s W h4))
  · by_cases ho : sealL (s.data.toList.take (s.size - 4)) = s.data.toList
    · have hop := fun W => open_yes s W (by omega) (by omega) ho
      rw [hL] at ho hop
      obtain ⟨T, hT⟩ : ∃ T, T = L.take (s.size - 4) := ⟨_, rfl⟩
      have hTl : T.length = s.size - 4 := by rw [hT, List.length_take]; omega
      rw [← hT] at ho hop
      rcases e1 : getN (T, false) 1 with ⟨kd, s1⟩
      rcases e2 : getN s1 1 with ⟨c, s2⟩
      rcases e3 : getN s2 2 with ⟨a, s3⟩
      rcases e4 : getN s3 2 with ⟨b, s4⟩
      rcases e5 : getN s4 4 with ⟨g, s5⟩
      rcases e6 : getN s5 2 with ⟨r, st⟩
      refine hread_open s ⟨T.toArray⟩ w hop kd c a b g r s1 s2 s3 s4 s5 st e1 e2 e3 e4 e5 e6 (by show T.toArray.size ≤ _; rw [List.size_toArray]; omega) _ ?_
      by_cases h12 : T.length = 12
      · rw [Z2w T 1 (by omega)] at e1
        obtain ⟨rfl, rfl⟩ := Prod.mk.inj e1
        rw [Z2w _ 1 (by rw [List.length_drop]; omega)] at e2
        obtain ⟨hc, rfl⟩ := Prod.mk.inj e2
        rw [List.drop_drop] at e3
        rw [Z2w _ 2 (by rw [List.length_drop]; omega)] at e3
        obtain ⟨ha, rfl⟩ := Prod.mk.inj e3
        rw [List.drop_drop] at e4
        rw [Z2w _ 2 (by rw [List.length_drop]; omega)] at e4
        obtain ⟨hb, rfl⟩ := Prod.mk.inj e4
        rw [List.drop_drop] at e5
        rw [Z2w _ 4 (by rw [List.length_drop]; omega)] at e5
        obtain ⟨hg, rfl⟩ := Prod.mk.inj e5
        rw [List.drop_drop] at e6
        rw [Z2w _ 2 (by rw [List.length_drop]; omega)] at e6
        obtain ⟨hr, rfl⟩ := Prod.mk.inj e6
        simp only [Nat.reduceAdd] at ha hb hg hr hc
        have hdrop : ∀ k n, k + n ≤ 12 → (L.drop k).take n = (T.drop k).take n := by
          intro k n hkn
          rw [← ho]
          unfold sealL
          rw [List.drop_append_of_le_length (by omega), List.take_append_of_le_length (by rw [List.length_drop]; omega)]
        have c1 : hC L = c := by
          have h1 := hdrop 1 1 (by omega)
          rw [← hc, ← h1]
          unfold hC
          rw [take_at L 1 (by omega), Z4o]
        have g1 : hG L = g := by unfold hG; rw [hdrop 6 4 (by omega)]; exact hg
        have r1 : hR L = r := by unfold hR; rw [hdrop 10 2 (by omega)]; exact hr
        have a1 : hA L = a := by unfold hA; rw [hdrop 2 2 (by omega)]; exact ha
        have b1 : hB L = b := by unfold hB; rw [hdrop 4 2 (by omega)]; exact hb
        have hst : (List.drop 2 (List.drop (1 + 1 + 2 + 2 + 4) T), false) = (([] : List UInt8), false) := by rw [List.drop_drop, List.drop_of_length_le (by omega)]
        have hT12 := twelve T h12
        have hcT : (T.getD 1 0).toNat = c := by
          rw [← hc, take_at T 1 (by omega), Z4o]
        rw [hcT, hg, hr, ha, hb] at hT12
        have hkd : headL g r a b c = T ↔ numL (T.take 1) = 84 := by
          constructor
          · intro h
            rw [hT12]
            have : headL g r a b c = le 84 1 ++ (le c 1 ++ le a 2 ++ le b 2 ++ le g 4 ++ le r 2) := by simp [headL]
            rw [hT12] at h
            rw [this] at h
            have h84 := (List.append_inj (show le 84 1 ++ (le c 1 ++ le a 2 ++ le b 2 ++ le g 4 ++ le r 2) = le (numL (T.take 1)) 1 ++ (le c 1 ++ le a 2 ++ le b 2 ++ le g 4 ++ le r 2) by rw [h]; simp [List.append_assoc]) (by simp [Z0i])).1
            have h5 := congrArg numL h84
            rw [Z2e 84 1 (by decide)] at h5
            rw [← hT12]
            have hlt := Z6u (T.take 1)
            rw [List.length_take, Nat.min_eq_left (by omega)] at hlt
            rw [Z2e _ 1 hlt] at h5
            exact h5.symm
          · intro h
            rw [h] at hT12
            rw [hT12]
            simp [headL, List.append_assoc]
        unfold hdRead HeadIs headOf
        rw [g1, r1, a1, b1, c1]
        by_cases hall : numL (T.take 1) = 84 ∧ HeadOk g r a b c
        · rw [if_pos ⟨by omega, hall.2, by rw [hkd.2 hall.1]; exact ho⟩, if_pos ⟨hall.1, hst, hall.2⟩]
          rfl
        · rw [if_neg (fun e => hall ⟨hkd.1 (Z7c (e.2.2.trans ho.symm)), e.2.1⟩), if_neg (fun e => hall ⟨e.1, e.2.2⟩)]
          rfl
      · have hn : hdRead L = .none := by unfold hdRead; rw [if_neg (fun e => h12 (by have := e.1; omega))]
        have hst : st ≠ ([], false) := by
          intro h
          subst h
          obtain ⟨f5, l5⟩ := Z1z e6
          obtain ⟨x5, y5⟩ := s5
          simp only at f5 l5; subst f5
          obtain ⟨f4, l4⟩ := Z1z e5
          obtain ⟨x4, y4⟩ := s4
          simp only at f4 l4; subst f4
          obtain ⟨f3, l3⟩ := Z1z e4
          obtain ⟨x3, y3⟩ := s3
          simp only at f3 l3; subst f3
          obtain ⟨f2, l2⟩ := Z1z e3
          obtain ⟨x2, y2⟩ := s2
          simp only at f2 l2; subst f2
          obtain ⟨f1, l1⟩ := Z1z e2
          obtain ⟨x1, y1⟩ := s1
          simp only at f1 l1; subst f1
          obtain ⟨_, l0⟩ := Z1z e1
          simp only [List.length_nil] at *
          omega
        rw [hn, if_neg (fun e => hst e.2.1)]
        rfl
    · have hn : hdRead L = .none := by
        unfold hdRead
        rw [if_neg]
        intro e
        apply ho
        have h16 := e.1
        have h12 : (headOf L).length = 12 := Z28 _ _ _ _ _
        rw [hL, show s.size - 4 = (headOf L).length by omega]
        have := e.2.2
        have h2 := sealL_take (headOf L)
        rw [this] at h2
        rw [h2]
        exact this
      rw [hn]
      exact Z4f s w (fun W => open_no s W (by omega) (by omega) ho)
open Go.RowKit Go.Maps Go.Sort

/-- A head's fields. -/
structure Hd where
  g : Int
  r : Int
  a : Int
  b : Int
  c : Int
abbrev Hd.v (h : Hd) : Value := headV h.g h.r h.a h.b h.c
def keptV (K : Int → Bool) : Int → Option Value := fun i => if K i then some (.bool true) else none
theorem keptV_is (K : Int → Bool) (i : Int) : (keptV K i).isSome = K i := by
  unfold keptV
  cases K i <;> rfl
theorem keptV_get (K : Int → Bool) (i : Int) : (keptV K i).getD (.bool false) = .bool (K i) := by
  unfold keptV
  cases K i <;> rfl
theorem keptV_put (K : Int → Bool) (c : Int) : putV (keptV K) c (.bool true) = keptV (fun i => K i || decide (i = c)) := by
  funext i
  unfold putV keptV
  by_cases e : i = c
  · subst e; simp
  · simp [e]
theorem keptV_none : keptV (fun _ => false) = fun _ => none := rfl
abbrev pgs (n : Nat) : Nat := min (n / 16) 512
/-- What a store says: which pages are committed, which are new; the new ones' nodes lie in a pool. -/
structure StOk (P : Nat) (K : Int → Bool) (F : Int → Option Nd) (vs : List Value) (N : List Nd) (m : Int → Option Value) : Prop where
  le : P ≤ 512
  kr : ∀ c, K c = true → 1 ≤ c ∧ c < P
  fr : ∀ c nd, F c = some nd → 1 ≤ c ∧ c < P
  fg : ∀ c nd, F c = some nd → goodB nd.1 nd.2 = true ∧ ∀ x ∈ nd.2, x.1 < 18446744073709551616 ∧ x.2 < 18446744073709551616
  fm : ∀ c, F c = none → m c = none
  fs : ∀ c nd, F c = some nd → ∃ (i : Nat) (B : Option Addr) (cap : Nat), vs[i]? = some (.slice B nd.2.length cap) ∧ N[i]? = some nd ∧ m c = some (.agg #[.int .i64 (nd.1 : Nat), .slice B nd.2.length cap])
abbrev stB (p : Nat) (h : Hd) (at_ : Int) (kb fb : Nat) : Array Value := #[.pointer (some ⟨p, 0, none⟩), .int .u64 h.g, .int .i64 h.r, .int .i64 h.a, .int .i64 h.b, .int .i64 h.c, .int .i64 at_, .map (some kb), .map (some fb)]
abbrev stL (sb p : Nat) (h : Hd) (at_ : Int) (kb fb : Nat) (K : Int → Bool) (m : Int → Option Value) (vs : List Value) (N : List Nd) (R : List Thing) : List Thing :=
  tBlk sb 102 #[.pointer (some ⟨p, 0, none⟩), .int .u64 h.g, .int .i64 h.r, .int .i64 h.a, .int .i64 h.b, .int .i64 h.c, .int .i64 at_, .map (some kb), .map (some fb)] :: tMap kb 512 (keptV K) :: tMap fb 512 m :: tPool vs N :: R
/-- What is read of a store. -/
structure StR (sb p : Nat) (h : Hd) (at_ : Int) (kb fb : Nat) (K : Int → Bool) (m : Int → Option Value) (w : World) : Prop where
  blk : Blk w sb 102 (stB p h at_ kb fb)
  km : VM w kb 512 (keptV K)
  fm : VM w fb 512 m
section
variable {H : Nat} {A w w' : World} {R : List Thing} {sb p kb fb P : Nat} {h : Hd} {at_ : Int} {K : Int → Bool} {F : Int → Option Nd} {m : Int → Option Value} {vs : List Value} {N : List Nd}
theorem OwnT.stR (O : OwnT H A (stL sb p h at_ kb fb K m vs N R) w) : StR sb p h at_ kb fb K m w := ⟨O.all.1, O.all.2.1, O.all.2.2.1⟩
theorem StR.ext (h1 : StR sb p h at_ kb fb K m w) (k : Ext w w') : StR sb p h at_ kb fb K m w' := ⟨h1.blk.ext k, h1.km.ext k, h1.fm.ext k⟩
theorem StOk.isSome (s : StOk P K F vs N m) (c : Int) : (m c).isSome = (F c).isSome := by
  cases hF : F c with
  | none => rw [s.fm c hF]; rfl
  | some nd =>
    obtain ⟨i, B, cap, _, _, e⟩ := s.fs c nd hF
    rw [e]
    rfl
theorem StOk.wf (s : StOk P K F vs N m) {c : Int} (hc : 1 ≤ c ∧ c < P) : wfV c := Z4u (by omega) (by have := s.le; omega)
theorem Z29 (w : World) : (zeroValue 47).run Tryz.prog w = .ok (.agg #[.int .i64 0, .slice none 0 0]) w := by kernel_rfl
theorem Z5q (w : World) : (zeroValue 4).run Tryz.prog w = .ok (.bool false) w := by kernel_rfl
theorem x_lenM {o : Oper} {ρ : Operand → Value} {x : Operand} {t e : TypeId} {b n : Nat} {m : Int → Option Value} (hM : VM w b n m) (ho : o.op = .call { callee := .builtin .len, args := #[x], argTypes := #[t] }) (hx : ρ x = .map (some b)) (ht : Tryz.prog.underlying t = some (.map 3 e)) (L : List Int) (hnd : L.Nodup) (hL : ∀ x, x ∈ L ↔ wfV x ∧ (m x).isSome = true) :
    (execOp ρ o).run Tryz.prog w = .ok (.value (.int .i64 (L.length : Nat))) w := by
  obtain ⟨D, hown, hD⟩ := hM
  have hp := Z68 hown hD L hnd hL
  have hs : Maps.size D = L.length := by
    rw [hp.length_eq]
    obtain ⟨es, rfl, _⟩ := hown.tidy Z1s
    show es.length = (es.map _).length
    rw [List.length_map]
  have h1 := hown.len ht o.type
  rw [hs] at h1
  unfold execOp
  simp only [ho, resolve, invoke, builtin, Sem.run_bind, Sem.run_pure, Result.andThen_ok, List.map_toArray, List.map_cons, List.map_nil, hx]
  exact congrArg (Result.andThen · _) h1
/-- How many pages are committed, how many are new. -/
def kL (P : Nat) (K : Int → Bool) : List Int := riseN P K
def fL (P : Nat) (F : Int → Option Nd) : List Int := riseN P fun i => (F i).isSome
theorem kL_mem (s : StOk P K F vs N m) (x : Int) : x ∈ kL P K ↔ wfV x ∧ (keptV K x).isSome = true := by
  unfold kL
  rw [Z3i, keptV_is]
  constructor
  · rintro ⟨h1, h2⟩
    have := s.le
    exact ⟨Z4u (by omega) (by omega), h2⟩
  · rintro ⟨_, h2⟩
    have := s.kr x h2
    exact ⟨by omega, h2⟩
theorem fL_mem (s : StOk P K F vs N m) (x : Int) : x ∈ fL P F ↔ wfV x ∧ (m x).isSome = true := by
  unfold fL
  rw [Z3i, s.isSome]
  constructor
  · rintro ⟨h1, h2⟩
    have := s.le
    exact ⟨Z4u (by omega) (by omega), h2⟩
  · rintro ⟨_, h2⟩
    obtain ⟨nd, hn⟩ := Option.isSome_iff_exists.1 h2
    have := s.fr x nd hn
    exact ⟨by omega, h2⟩
/-- A new page's node in memory. -/
theorem StOk.node (s : StOk P K F vs N m) (hp : (tPool vs N).holds w) {c : Int} {nd : Nd} (hc : F c = some nd) : ∃ (B : Option Addr) (cap : Nat), m c = some (.agg #[.int .i64 (nd.1 : Nat), .slice B nd.2.length cap]) ∧ nd.2.length ≤ cap ∧ cap ≤ maxLen ∧ Row w B 2 pairC nd.2 ∧ SlB B cap nd.2 := by
  obtain ⟨i, B, cap, h1, h2, h3⟩ := s.fs c nd hc
  obtain ⟨B', cap', e, g1, g2, g3, g4⟩ := Z4c (hp.2 i _ nd h1 h2)
  cases e
  exact ⟨B, cap, h3, g1, g2, g3, g4⟩
end
end Go.Proofs.YtakkhglbdljfiaaGreatDoor
