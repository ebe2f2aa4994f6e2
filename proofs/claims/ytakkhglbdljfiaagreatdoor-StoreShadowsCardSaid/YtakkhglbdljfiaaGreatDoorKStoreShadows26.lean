/- The walk of head's reference: Bytes. -/
import Derived.Test.YtakkhglbdljfiaaGreatDoorKStoreShadows25
import Derived.RegionTactic
import Derived.Test.YtakkhglbdljfiaaGreatDoorKStoreShadows01
import Derived.Test.YtakkhglbdljfiaaGreatDoorKStoreShadows19
namespace Go.Proofs.YtakkhglbdljfiaaGreatDoor
attribute [local simp] BigFrame.eval_const BigFrame.eval_global BigFrame.eval_func
set_option linter.unusedVariables false
set_option linter.unusedSimpArgs false
open Go.RowKit

end Go.Proofs.YtakkhglbdljfiaaGreatDoor

/- The walks of package head: Read. -/
namespace Go.Proofs.YtakkhglbdljfiaaGreatDoor
set_option linter.unusedVariables false
set_option linter.unusedSimpArgs false
open Go.RowKit

set_option maxHeartbeats 1000000 in
theorem Z3x (s : ByteArray) (w : World) (h : ∀ W : World, Calls Tryz.prog 95 #[.string s] W fun e w' => e = .returned (.tuple #[.string ⟨#[]⟩, .bool false]) ∧ Below W.heap.size W w') :
    Calls Tryz.prog 99 #[.string s] w fun e w' => e = .returned (.tuple #[headV 0 0 0 0 0, .int .i64 3]) ∧ Below w.heap.size w w' := by
  have H := Lib.hid h
  clear h
  go_enter Tryz.func99, Tryz.ntmps99
  go_wp2_with fail
  refine (H.out _).mono ?_
  rintro e w1 ⟨rfl, hw1⟩; obtain ⟨hcw1, hfw1⟩ := bcell hw1; have hsw1 := hw1.size; (try simp at hsw1)
  have z0 : w.heap.size < w1.heap.size := by omega
  have hb : Below w.heap.size w w1 := Below.trans (by (repeat (first | with_reducible exact Below.refl _ _ | with_reducible assumption | with_reducible apply Below.drew | with_reducible apply Z09 | (with_reducible refine Z0e ?_ ?_; focus ((try simp); (try omega); done)) | (with_reducible refine Z0f ?_ ?_; focus ((try simp); (try omega); done))))) (hw1.mono (by simp))
  go_wp2_with fail
  exact bodyPost_ret (v := .tuple #[headV 0 0 0 0 0, .int .i64 3]) (by simp [results, Tryz.results99, go_sem, hcw1, z0]) rfl ⟨rfl, by (repeat (first | with_reducible exact Below.refl _ _ | with_reducible assumption | with_reducible apply Below.drew | with_reducible apply Z09 | (with_reducible refine Z0e ?_ ?_; focus ((try simp); (try omega); done)) | (with_reducible refine Z0f ?_ ?_; focus ((try simp); (try omega); done))))⟩

theorem Z1l {w : World} {H : Nat} {x0 x1 x2 x3 x4 : Value} (h : Blk w H 39 #[x0, x1, x2, x3, x4]) (y0 y1 y2 y3 y4 : Value) :
    Blk (((((w.setCell ⟨H, 0, none⟩ y0).setCell ⟨H, 1, none⟩ y1).setCell ⟨H, 2, none⟩ y2).setCell ⟨H, 3, none⟩ y3).setCell ⟨H, 4, none⟩ y4) H 39 #[y0, y1, y2, y3, y4] := by
  have := ((((h.set_ 0 y0).set_ 1 y1).set_ 2 y2).set_ 3 y3).set_ 4 y4
  simpa using this

theorem Z2k {R : Ending → World → Prop} {ac : Act} {w : World} {H : Nat} {g : Nat} {r a b c x : Int} (h2 : ac.tmps[2]?.getD undef = .pointer (some ⟨H, 0, none⟩)) (h3 : ac.tmps[3]?.getD undef = .int .i64 x) (hd : ac.defers = [])
    (hF : Blk w H 39 #[.int .u64 g, .int .i64 r, .int .i64 a, .int .i64 b, .int .i64 c]) (hR : R (.returned (.tuple #[headV g r a b c, .int .i64 x])) w) : bodyPost Tryz.prog Tryz.f99 R .ret ac w := by
  obtain ⟨tm, df⟩ := ac
  simp only at h2 h3 hd
  have p0 := hF.cell 0
  have p1 := hF.cell 1
  have p2 := hF.cell 2
  have p3 := hF.cell 3
  have p4 := hF.cell 4
  exact bodyPost_ret (v := .tuple #[headV g r a b c, .int .i64 x]) (by simp [results, Tryz.results99, go_sem, h2, h3, p0, p1, p2, p3, p4]) hd hR

set_option maxHeartbeats 1000000 in
theorem hread_open (s T : ByteArray) (w : World) (h : ∀ W : World, Calls Tryz.prog 95 #[.string s] W fun e w' => e = .returned (.tuple #[.string T, .bool true]) ∧ Below W.heap.size W w')
    (kd c a b g r : Nat) (s1 s2 s3 s4 s5 st : List UInt8 × Bool) (e1 : getN (T.data.toList, false) 1 = (kd, s1)) (e2 : getN s1 1 = (c, s2)) (e3 : getN s2 2 = (a, s3)) (e4 : getN s3 2 = (b, s4)) (e5 : getN s4 4 = (g, s5)) (e6 : getN s5 2 = (r, st))
    (hT : T.size ≤ 1000000) (V : Value) (hV : V = if kd = 84 ∧ st = ([], false) ∧ HeadOk g r a b c then .tuple #[headV g r a b c, .int .i64 0] else .tuple #[headV 0 0 0 0 0, .int .i64 3]) :
    Calls Tryz.prog 99 #[.string s] w fun e w' => e = .returned V ∧ Below w.heap.size w w' := by
  have hTl : T.data.toList.length ≤ 1000000 := by simpa using hT
  have l1 : s1.1.length ≤ 1000000 := by have := Z1r (T.data.toList, false) 1; rw [e1] at this; simp only at this; omega
  have l2 : s2.1.length ≤ 1000000 := by have := Z1r s1 1; rw [e2] at this; simp only at this; omega
  have l3 : s3.1.length ≤ 1000000 := by have := Z1r s2 2; rw [e3] at this; simp only at this; omega
  have l4 : s4.1.length ≤ 1000000 := by have := Z1r s3 2; rw [e4] at this; simp only at this; omega
  have l5 : s5.1.length ≤ 1000000 := by have := Z1r s4 4; rw [e5] at this; simp only at this; omega
  have bc := Z4o s1 1
  have ba := Z4o s2 2
  have bb := Z4o s3 2
  have bg := Z4o s4 4
  have br := Z4o s5 2
  rw [e2] at bc
  rw [e3] at ba
  rw [e4] at bb
  rw [e5] at bg
  rw [e6] at br
  simp only [Nat.reducePow] at bc ba bb bg br
  have E1 := Lib.hid e1
  have E2 := Lib.hid e2
  have E3 := Lib.hid e3
  have E4 := Lib.hid e4
  have E5 := Lib.hid e5
  have E6 := Lib.hid e6
  have H := Lib.hid h
  have HV := Lib.hid hV
  clear hV
  obtain ⟨q, hq⟩ : ∃ q : Bool, ((kd : Int) == 84) = q := ⟨_, rfl⟩
  clear h e1 e2 e3 e4 e5 e6 hT
  go_enter Tryz.func99, Tryz.ntmps99
  go_wp2_with fail
  refine (H.out _).mono ?_
  rintro e w1 ⟨rfl, hw1⟩
  have hA : Blk w1 w.heap.size 39 #[.int .u64 0, .int .i64 0, .int .i64 0, .int .i64 0, .int .i64 0] := (Blk.new w 39 _).below hw1 (by simp)
  have hz := hA.lt
  have hb0 : Below w.heap.size w w1 := Below.trans (by (repeat (first | with_reducible exact Below.refl _ _ | with_reducible assumption | with_reducible apply Below.drew | with_reducible apply Z09 | (with_reducible refine Z0e ?_ ?_; focus ((try simp); (try omega); done)) | (with_reducible refine Z0f ?_ ?_; focus ((try simp); (try omega); done))))) (hw1.mono (by simp))
  have Hw1 := Lib.hid hb0
  have HA := Lib.hid hA
  clear hw1 H hb0 hA
  go_wp2_with fail
  refine (rs_of T w1).mono ?_
  rintro e w2 ⟨rfl, R0⟩
  go_wp2_with fail
  refine (Z56 R0 1 (by decide) (by decide) hTl).mono ?_
  rw [E1.out]
  rintro e w3 ⟨rfl, R1, -, z3⟩
  clear R0
  go_wp2_with fail
  refine (Z56 R1 1 (by decide) (by decide) l1).mono ?_
  rw [E2.out]
  rintro e w4 ⟨rfl, R2, -, z4⟩
  have hzB := R2.size
  clear R1
  have hR2 := Lib.hid R2
  clear R2
  go_wp2_with fail
  go_loopw [9, 27] (fun _ i wr => ∃ (j A' B' : Nat) (sj : List UInt8 × Bool), j ≤ 2 ∧ i = .int .i64 j ∧ Rs w1 w1.heap.size sj wr ∧ Blk wr w4.heap.size 39 #[.int .u64 0, .int .i64 0, .int .i64 A', .int .i64 B', .int .i64 c] ∧ Hid ((j = 0 → sj = s2 ∧ A' = 0 ∧ B' = 0) ∧ (j = 1 → sj = s3 ∧ A' = a ∧ B' = 0) ∧ (j = 2 → sj = s4 ∧ A' = a ∧ B' = b))) (fun _ i _ => 2 - (intOf i).toNat)
  case atStart =>
    refine ⟨0, 0, 0, s2, by omega, rfl, ?_, ?_, by simp [Hid]⟩
    · exact hR2.out.alloc _
    · exact Blk.new _ _ _
  case round =>
    obtain ⟨j, A', B', sj, hj, rfl, R, hD, HJ⟩ := hrel
    rcases (show j = 0 ∨ j = 1 ∨ j = 2 by omega) with rfl | rfl | rfl
    · obtain ⟨rfl, rfl, rfl⟩ := HJ.out.1 rfl
      go_wp2_with fail
      refine (Z56 R 2 (by decide) (by decide) l2).mono ?_
      rw [E3.out]
      rintro e w5 ⟨rfl, R3, hk5, z5⟩
      have hD5 := hk5 _ _ _ (by omega) hD
      clear R hD
      have f2 := hD5.frozen 2
      have q2 := hD5.cell 2
      go_wp2_with fail
      go_roundw
      case rel => exact ⟨1, a, 0, s3, by omega, rfl, R3.set_ _ (by simp; omega), hD5.set_ 2 _, by simp [Hid]⟩
      case measure => simp [intOf]
    · obtain ⟨rfl, rfl, rfl⟩ := HJ.out.2.1 rfl
      go_wp2_with fail
      refine (Z56 R 2 (by decide) (by decide) l3).mono ?_
      rw [E4.out]
      rintro e w5 ⟨rfl, R3, hk5, z5⟩
      have hD5 := hk5 _ _ _ (by omega) hD
      clear R hD
      have f3 := hD5.frozen 3
      have q3 := hD5.cell 3
      go_wp2_with fail
      go_roundw
      case rel => exact ⟨2, A', b, s4, by omega, rfl, R3.set_ _ (by simp; omega), hD5.set_ 3 _, by simp [Hid]⟩
      case measure => simp [intOf]
    · obtain ⟨rfl, rfl, rfl⟩ := HJ.out.2.2 rfl
      go_wp2_with fail
      refine (Z56 R 4 (by decide) (by decide) l4).mono ?_
      rw [E5.out]
      rintro e w5 ⟨rfl, R5, hk5, z5⟩
      have hD5 := hk5 _ _ _ (by omega) hD
      clear R hD hk5
      have f0 := hD5.frozen 0
      have q0 := hD5.cell 0
      have R5' := R5.set_ (p := ⟨w4.heap.size, 0, none⟩) (.int .u64 g) (by simp; omega)
      have hD5' := hD5.set_ 0 (.int .u64 g)
      have zz5 : w5.heap.size = (w5.setCell ⟨w4.heap.size, 0, none⟩ (.int .u64 g)).heap.size := by simp
      go_wp2_with fail
      refine (Z56 R5' 2 (by decide) (by decide) l5).mono ?_
      rw [E6.out]
      rintro e w6 ⟨rfl, R6, hk6, z6⟩
      have hD6 := hk6 _ _ _ (by omega) hD5'
      clear R5 R5' hD5 hD5' f0 q0 hk6
      have f1 := hD6.frozen 1
      have q1 := hD6.cell 1
      have R7 := R6.set_ (p := ⟨w4.heap.size, 1, none⟩) (.int .i64 r) (by simp; omega)
      have hD7 := hD6.set_ 1 (.int .i64 r)
      have zD := hD6.lt
      clear hD6 R6
      simp at hD7
      generalize hw7 : w6.setCell ⟨w4.heap.size, 1, none⟩ (.int .i64 r) = w7 at R7 hD7
      have zD7 := hD7.lt
      have A7 : Blk w7 w.heap.size 39 #[.int .u64 0, .int .i64 0, .int .i64 0, .int .i64 0, .int .i64 0] := HA.out.below R7.below hz
      have zA7 := A7.lt
      have B7 : Below w.heap.size w w7 := Hw1.out.trans (R7.below.mono (Nat.le_of_lt hz))
      have d0 := hD7.cell 0
      have d1 := hD7.cell 1
      have d2 := hD7.cell 2
      have d3 := hD7.cell 3
      have d4 := hD7.cell 4
      have a0 := A7.cell 0
      have a1 := A7.cell 1
      have a2 := A7.cell 2
      have a3 := A7.cell 3
      have a4 := A7.cell 4
      have y0 := A7.frozen 0
      have y1 := A7.frozen 1
      have y2 := A7.frozen 2
      have y3 := A7.frozen 3
      have y4 := A7.frozen 4
      have HR := Lib.hid R7
      have HB := Lib.hid B7
      clear R7 B7 HA HJ Hw1 hR2 z3 z4 zz5
      have HA7 := Lib.hid A7
      have HD7 := Lib.hid hD7
      clear A7 hD7
      cases q with
      | false =>
        have hk : ¬ kd = 84 := by intro e; subst e; simp at hq
        have hif : V = .tuple #[headV 0 0 0 0 0, .int .i64 3] := by rw [HV.out, if_neg (fun h => hk h.1)]
        have HI := Lib.hid hif
        clear hq hif HV
        go_wp2_with fail
        have hb7 := HB.out
        have hF := Z1l HA7.out (.int .u64 ((0 : Nat) : Int)) (.int .i64 0) (.int .i64 0) (.int .i64 0) (.int .i64 0)
        exact Z2k rfl rfl rfl hF ⟨by rw [HI.out] <;> rfl, by (repeat (first | with_reducible exact Below.refl _ _ | with_reducible assumption | with_reducible apply Below.drew | with_reducible apply Z09 | (with_reducible refine Z0e ?_ ?_; focus ((try simp); (try omega); done)) | (with_reducible refine Z0f ?_ ?_; focus ((try simp); (try omega); done))))⟩
      | true =>
        have hk : kd = 84 := by simp at hq; omega
        subst hk
        by_cases hst : st = ([], false)
        · subst hst
          by_cases hg : HeadOk g r A' B' c
          · have HG := Lib.hid (fun W => Z6s g r A' B' c W hg)
            have hif : V = .tuple #[headV g r A' B' c, .int .i64 0] := by rw [HV.out, if_pos ⟨rfl, rfl, hg⟩]
            have HI := Lib.hid hif
            clear hg hq hif HV
            go_wp2_with fail
            refine (Z57 HR.out).mono ?_
            rintro e w8 ⟨rfl, rfl⟩
            go_wp2_with fail
            refine (HG.out _).mono ?_
            rintro e w8 ⟨rfl, hw8⟩
            have A8 := HA7.out.below hw8 zA7
            have D8 := HD7.out.below hw8 zD7
            have B8 := HB.out.trans (hw8.mono (Nat.le_of_lt zA7))
            clear d0 d1 d2 d3 d4 a0 a1 a2 a3 a4 y0 y1 y2 y3 y4 HG
            have a0 := A8.cell 0
            have a1 := A8.cell 1
            have a2 := A8.cell 2
            have a3 := A8.cell 3
            have a4 := A8.cell 4
            have y0 := A8.frozen 0
            have y1 := A8.frozen 1
            have y2 := A8.frozen 2
            have y3 := A8.frozen 3
            have y4 := A8.frozen 4
            have d0 := D8.cell 0
            have d1 := D8.cell 1
            have d2 := D8.cell 2
            have d3 := D8.cell 3
            have d4 := D8.cell 4
            have HA8 := Lib.hid A8
            have HB8 := Lib.hid B8
            clear A8 B8 D8 hw8
            go_wp2_with fail
            have hb7 := HB8.out
            have hF := Z1l HA8.out (.int .u64 g) (.int .i64 r) (.int .i64 A') (.int .i64 B') (.int .i64 c)
            exact Z2k rfl rfl rfl hF ⟨by rw [HI.out] <;> rfl, by (repeat (first | with_reducible exact Below.refl _ _ | with_reducible assumption | with_reducible apply Below.drew | with_reducible apply Z09 | (with_reducible refine Z0e ?_ ?_; focus ((try simp); (try omega); done)) | (with_reducible refine Z0f ?_ ?_; focus ((try simp); (try omega); done))))⟩
          · have HG := Lib.hid (fun W => hgood_no g r A' B' c W hg)
            have hif : V = .tuple #[headV 0 0 0 0 0, .int .i64 3] := by rw [HV.out, if_neg (fun h => hg h.2.2)]
            have HI := Lib.hid hif
            clear hg hq hif HV
            go_wp2_with fail
            refine (Z57 HR.out).mono ?_
            rintro e w8 ⟨rfl, rfl⟩
            go_wp2_with fail
            refine (HG.out _).mono ?_
            rintro e w8 ⟨rfl, hw8⟩
            have A8 := HA7.out.below hw8 zA7
            have D8 := HD7.out.below hw8 zD7
            have B8 := HB.out.trans (hw8.mono (Nat.le_of_lt zA7))
            clear d0 d1 d2 d3 d4 a0 a1 a2 a3 a4 y0 y1 y2 y3 y4 HG
            have a0 := A8.cell 0
            have a1 := A8.cell 1
            have a2 := A8.cell 2
            have a3 := A8.cell 3
            have a4 := A8.cell 4
            have y0 := A8.frozen 0
            have y1 := A8.frozen 1
            have y2 := A8.frozen 2
            have y3 := A8.frozen 3
            have y4 := A8.frozen 4
            have d0 := D8.cell 0
            have d1 := D8.cell 1
            have d2 := D8.cell 2
            have d3 := D8.cell 3
            have d4 := D8.cell 4
            have HA8 := Lib.hid A8
            have HB8 := Lib.hid B8
            clear A8 B8 D8 hw8
            go_wp2_with fail
            have hb7 := HB8.out
            have hF := Z1l HA8.out (.int .u64 ((0 : Nat) : Int)) (.int .i64 0) (.int .i64 0) (.int .i64 0) (.int .i64 0)
            exact Z2k rfl rfl rfl hF ⟨by rw [HI.out] <;> rfl, by (repeat (first | with_reducible exact Below.refl _ _ | with_reducible assumption | with_reducible apply Below.drew | with_reducible apply Z09 | (with_reducible refine Z0e ?_ ?_; focus ((try simp); (try omega); done)) | (with_reducible refine Z0f ?_ ?_; focus ((try simp); (try omega); done))))⟩
        · have hif : V = .tuple #[headV 0 0 0 0 0, .int .i64 3] := by rw [HV.out, if_neg (fun h => hst h.2.1)]
          have HI := Lib.hid hif
          have HS := Lib.hid hst
          clear hq hif HV hst
          go_wp2_with fail
          refine (rs_end_no HR.out HS.out).mono ?_
          rintro e w8 ⟨rfl, rfl⟩
          go_wp2_with fail
          have hb7 := HB.out
          have hF := Z1l HA7.out (.int .u64 ((0 : Nat) : Int)) (.int .i64 0) (.int .i64 0) (.int .i64 0) (.int .i64 0)
          exact Z2k rfl rfl rfl hF ⟨by rw [HI.out] <;> rfl, by (repeat (first | with_reducible exact Below.refl _ _ | with_reducible assumption | with_reducible apply Below.drew | with_reducible apply Z09 | (with_reducible refine Z0e ?_ ?_; focus ((try simp); (try omega); done)) | (with_reducible refine Z0f ?_ ?_; focus ((try simp); (try omega); done))))⟩
end Go.Proofs.YtakkhglbdljfiaaGreatDoor
