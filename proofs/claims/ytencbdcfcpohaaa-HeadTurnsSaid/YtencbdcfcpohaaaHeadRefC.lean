/- The walk of head's reference: Read. -/
import Derived.Test.YtencbdcfcpohaaaHeadRefB
import Derived.Test.YtencbdcfcpohaaaHeadC
namespace Go.Proofs.Ytencbdcfcpohaaa
set_option linter.unusedVariables false
set_option linter.unusedSimpArgs false
open Go.RowKit

theorem num_cut (s : ByteArray) (i j : Nat) (hij : j - i ≤ 8) (X : Nat) (hX : X = numL (s.extract i j).data.toList) (w : World) :
    Calls Try.prog 24 #[.string (s.extract i j)] w fun e w' => e = .returned (.int .u64 X) ∧ Ext w w' := by
  refine (number_any (s.extract i j) w (by rw [ByteArray.size_extract]; omega)).mono ?_
  rintro e w' ⟨rfl, rfl⟩
  exact ⟨by rw [hX], Ext.refl _⟩

theorem rhread_post {R : Ending → World → Prop} {ac : Act} {w : World} {H : Nat} {g : Nat} {r a b c : Int} {x : Bool} (h2 : ac.tmps[2]?.getD undef = .pointer (some ⟨H, 0, none⟩)) (h3 : ac.tmps[3]?.getD undef = .bool x) (hd : ac.defers = [])
    (hF : Blk w H 25 #[.int .u64 g, .int .i64 r, .int .i64 a, .int .i64 b, .int .i64 c]) (hR : R (.returned (.tuple #[headV g r a b c, .bool x])) w) : bodyPost Try.prog Try.f12 R .ret ac w := by
  obtain ⟨tm, df⟩ := ac
  simp only at h2 h3 hd
  have p0 := hF.cell 0
  have p1 := hF.cell 1
  have p2 := hF.cell 2
  have p3 := hF.cell 3
  have p4 := hF.cell 4
  exact bodyPost_ret (v := .tuple #[headV g r a b c, .bool x]) (by simp [results, Try.results12, go_sem, h2, h3, p0, p1, p2, p3, p4]) hd hR

theorem rhread_short (s : ByteArray) (w : World) (hs : s.size ≠ 16) :
    Calls Try.prog 12 #[.string s] w fun e w' => e = .returned (.tuple #[headV 0 0 0 0 0, .bool false]) ∧ Below w.heap.size w w' := by
  have h1 : ((s.size : Int) != 16) = true := by simp; omega
  go_enter Try.func12, Try.ntmps12
  go_wp2_with fail
  exact rhread_post (H := w.heap.size) (g := 0) (r := 0) (a := 0) (b := 0) (c := 0) (x := false) rfl rfl rfl (Blk.new w _ _) ⟨rfl, by (repeat (first | with_reducible exact Below.refl _ _ | with_reducible assumption | with_reducible apply Below.drew | with_reducible apply below_drewN | (with_reducible refine below_set ?_ ?_; focus ((try simp); (try omega); done)) | (with_reducible refine below_new ?_ ?_; focus ((try simp); (try omega); done))))⟩

set_option maxHeartbeats 1000000 in
theorem rhread_16 (s : ByteArray) (w : World) (hs : s.size = 16) (g r a b c : Nat) (hg : g = numL (s.extract 6 10).data.toList) (hr : r = numL (s.extract 10 12).data.toList) (ha : a = numL (s.extract 2 4).data.toList) (hb : b = numL (s.extract 4 6).data.toList)
    (hc : c = (s.data.toList.getD 1 0).toNat) (V : Value) (hV : V = if HeadOk g r a b c ∧ sealL (headL g r a b c) = s.data.toList then .tuple #[headV g r a b c, .bool true] else .tuple #[headV 0 0 0 0 0, .bool false]) :
    Calls Try.prog 12 #[.string s] w fun e w' => e = .returned V ∧ Below w.heap.size w w' := by
  have HG := Lib.hid (num_cut s 6 10 (by decide) g hg)
  have HR := Lib.hid (num_cut s 10 12 (by decide) r hr)
  have HA := Lib.hid (num_cut s 2 4 (by decide) a ha)
  have HB := Lib.hid (num_cut s 4 6 (by decide) b hb)
  have ix := index_byte s 1 (by omega)
  rw [← UInt8.toNat_inj, ← hc] at ix
  have lr := numL_lt (s.extract 10 12).data.toList
  have la := numL_lt (s.extract 2 4).data.toList
  have lb := numL_lt (s.extract 4 6).data.toList
  rw [← hr] at lr
  rw [← ha] at la
  rw [← hb] at lb
  simp [hs] at lr la lb
  have HV := Lib.hid hV
  have lc : c < 256 := by rw [hc]; exact UInt8.toNat_lt _
  clear hg hr ha hb hc hV
  have wr : IntKind.i64.wrap (r : Int) = (r : Int) := IntWalk.i64_in _ (by omega)
  have wc : IntKind.i64.wrap (c : Int) = (c : Int) := IntWalk.i64_in _ (by omega)
  have h1 : ((s.size : Int) != 16) = false := by simp [hs]
  have A0 := Blk.new w 25 #[.int .u64 0, .int .i64 0, .int .i64 0, .int .i64 0, .int .i64 0]
  have B0 : Below w.heap.size w (w.alloc (.cells #[.int .u64 0, .int .i64 0, .int .i64 0, .int .i64 0, .int .i64 0] 25)) := by (repeat (first | with_reducible exact Below.refl _ _ | with_reducible assumption | with_reducible apply Below.drew | with_reducible apply below_drewN | (with_reducible refine below_set ?_ ?_; focus ((try simp); (try omega); done)) | (with_reducible refine below_new ?_ ?_; focus ((try simp); (try omega); done))))
  go_enter Try.func12, Try.ntmps12
  go_upto_region 3 with fail
  generalize w.alloc (.cells #[.int .u64 0, .int .i64 0, .int .i64 0, .int .i64 0, .int .i64 0] 25) = w0 at A0 B0 ⊢
  generalize hH : w.heap.size = H at A0 B0 ⊢
  have HA0 := Lib.hid A0
  have HB0 := Lib.hid B0
  have HH := Lib.hid hH
  have zA := A0.lt
  clear A0 B0 hH
  refine wp_typed (R := Ext) (w0 := w0) [[], [0], [0, 1], [], [3], [3, 4], [], [6], [3, 4, 5, 6, 7], [3, 4, 5, 6, 7, 8], [0, 1, 2, 3, 4, 5, 6, 7, 8, 9], [], [0, 1, 2, 3, 4, 5, 6, 7, 8, 9, 10, 11]] [9, 10, 11, 12, 13, 14, 15, 16, 17, 18, 19, 4] Ext.refl (fun _ _ _ => Ext.trans) (Ext.drew _) (by kernel_rfl) ?_
  apply Build.det 9 Ext.refl (by rfl) (by rfl) rfl
  case h =>   -- 0: t9 := Op.move (tmp 0)
    intro ax wx hE hR hF
    have e0 : ax.eval (.tmp 0) = .string s := hE.eval 0 (by rfl) rfl
    simp [go_sem, BigFrame.eval_const, BigFrame.eval_global, BigFrame.eval_func, ↓IntWalk.iteOmega, ev e0]
    with_reducible rfl
  apply Build.det 10 Ext.refl (by rfl) (by rfl) rfl
  case h =>   -- 1: t10 := Op.index 9 (tmp 9) (const (Value.int IntKind.i64 1))
    intro ax wx hE hR hF
    have e9 : ax.eval (.tmp 9) = _ := hF 0 (det 9 _) (by decide) (.head _)
    simp [go_sem, BigFrame.eval_const, BigFrame.eval_global, BigFrame.eval_func, ↓IntWalk.iteOmega, ev e9, hs, ix]
    with_reducible rfl
  apply Build.det 11 Ext.refl (by rfl) (by rfl) rfl
  case h =>   -- 2: t11 := Op.convert 5 3 (tmp 10)
    intro ax wx hE hR hF
    have e10 : ax.eval (.tmp 10) = _ := hF 1 (det 10 _) (by decide) (.head _)
    simp [go_sem, BigFrame.eval_const, BigFrame.eval_global, BigFrame.eval_func, ↓IntWalk.iteOmega, ev e10, wc]
    with_reducible rfl
  apply Build.det 12 Ext.refl (by rfl) (by rfl) rfl
  case h =>   -- 3: t12 := Op.move (tmp 0)
    intro ax wx hE hR hF
    have e0 : ax.eval (.tmp 0) = .string s := hE.eval 0 (by rfl) rfl
    simp [go_sem, BigFrame.eval_const, BigFrame.eval_global, BigFrame.eval_func, ↓IntWalk.iteOmega, ev e0]
    with_reducible rfl
  apply Build.det 13 Ext.refl (by rfl) (by rfl) rfl
  case h =>   -- 4: t13 := Op.slice 9 (tmp 12) (some (const (Value.int IntKind.i64 6))) (some (co
    intro ax wx hE hR hF
    have e12 : ax.eval (.tmp 12) = _ := hF 3 (det 12 _) (by decide) (.head _)
    simp [go_sem, BigFrame.eval_const, BigFrame.eval_global, BigFrame.eval_func, ↓IntWalk.iteOmega, ev e12, hs]
    with_reducible rfl
  apply Build.call 14 Ext.refl (by rfl) (by rfl) rfl
  case h =>
    intro ax wx hE hR hF
    have e13 : ax.eval (.tmp 13) = _ := hF 4 (det 13 _) (by decide) (.head _)
    simp [go_sem, BigFrame.eval_const, BigFrame.eval_global, BigFrame.eval_func, ↓IntWalk.iteOmega, ev e13]
    with_reducible exact ⟨rfl, rfl⟩
  case hc => intro wx hR; with_reducible exact HG.out wx
  apply Build.det 15 Ext.refl (by rfl) (by rfl) rfl
  case h =>   -- 6: t15 := Op.move (tmp 0)
    intro ax wx hE hR hF
    have e0 : ax.eval (.tmp 0) = .string s := hE.eval 0 (by rfl) rfl
    simp [go_sem, BigFrame.eval_const, BigFrame.eval_global, BigFrame.eval_func, ↓IntWalk.iteOmega, ev e0]
    with_reducible rfl
  apply Build.det 16 Ext.refl (by rfl) (by rfl) rfl
  case h =>   -- 7: t16 := Op.slice 9 (tmp 15) (some (const (Value.int IntKind.i64 10))) (some (c
    intro ax wx hE hR hF
    have e15 : ax.eval (.tmp 15) = _ := hF 6 (det 15 _) (by decide) (.head _)
    simp [go_sem, BigFrame.eval_const, BigFrame.eval_global, BigFrame.eval_func, ↓IntWalk.iteOmega, ev e15, hs]
    with_reducible rfl
  apply Build.call 17 Ext.refl (by rfl) (by rfl) rfl
  case h =>
    intro ax wx hE hR hF
    have e16 : ax.eval (.tmp 16) = _ := hF 7 (det 16 _) (by decide) (.head _)
    simp [go_sem, BigFrame.eval_const, BigFrame.eval_global, BigFrame.eval_func, ↓IntWalk.iteOmega, ev e16]
    with_reducible exact ⟨rfl, rfl⟩
  case hc => intro wx hR; with_reducible exact HR.out wx
  apply Build.det 18 Ext.refl (by rfl) (by rfl) rfl
  case h =>   -- 9: t18 := Op.convert 22 3 (tmp 17)
    intro ax wx hE hR hF
    have e17 : ax.eval (.tmp 17) = _ := hF 8 (det 17 _) (by decide) (.head _)
    simp [go_sem, BigFrame.eval_const, BigFrame.eval_global, BigFrame.eval_func, ↓IntWalk.iteOmega, ev e17, wr]
    with_reducible rfl
  apply Build.det 19 Ext.refl (by rfl) (by rfl) rfl
  case h =>   -- 10: t19 := Op.build 25 #[(3, tmp 11), (0, tmp 14), (1, tmp 18)]
    intro ax wx hE hR hF
    have e11 : ax.eval (.tmp 11) = _ := hF 2 (det 11 _) (by decide) (.tail _ (.tail _ (.tail _ (.tail _ (.tail _ (.tail _ (.tail _ (.head _))))))))
    have e14 : ax.eval (.tmp 14) = _ := hF 5 (det 14 _) (by decide) (.tail _ (.tail _ (.tail _ (.tail _ (.head _)))))
    have e18 : ax.eval (.tmp 18) = _ := hF 9 (det 18 _) (by decide) (.head _)
    simp [go_sem, BigFrame.eval_const, BigFrame.eval_global, BigFrame.eval_func, ↓IntWalk.iteOmega, ev e11, ev e14, ev e18]
    with_reducible rfl
  refine Build.new 4 (fun v w => ∃ b, v = .pointer (some ⟨b, 0, none⟩) ∧ Blk w b 25 #[.int .u64 0, .int .i64 0, .int .i64 0, .int .i64 0, .int .i64 0] ∧ w0.heap.size ≤ b) (fun v w w' hR ⟨b, h1, h2, h3⟩ => ⟨b, h1, h2.ext hR, h3⟩) (by rfl) (by rfl) rfl ?_ ?_
  · intro ax wx hE hR hF
    exact ⟨_, _, by simp [go_sem], Ext.alloc _ _, _, rfl, Blk.new _ _ _, hR.size⟩
  apply Build.stop
  refine ⟨by kernel_rfl, .inr ⟨by kernel_rfl, _, rfl, rfl, ?_⟩⟩
  intro ax w1 hE R1 hF
  have e9 : ax.eval (.tmp 9) = _ := hF 0 (det 9 _) (.tail _ (.tail _ (.tail _ (.tail _ (.tail _ (.tail _ (.tail _ (.tail _ (.tail _ (.tail _ (.tail _ (.head _))))))))))))
  have e10 : ax.eval (.tmp 10) = _ := hF 1 (det 10 _) (.tail _ (.tail _ (.tail _ (.tail _ (.tail _ (.tail _ (.tail _ (.tail _ (.tail _ (.tail _ (.head _)))))))))))
  have e11 : ax.eval (.tmp 11) = _ := hF 2 (det 11 _) (.tail _ (.tail _ (.tail _ (.tail _ (.tail _ (.tail _ (.tail _ (.tail _ (.tail _ (.head _))))))))))
  have e12 : ax.eval (.tmp 12) = _ := hF 3 (det 12 _) (.tail _ (.tail _ (.tail _ (.tail _ (.tail _ (.tail _ (.tail _ (.tail _ (.head _)))))))))
  have e13 : ax.eval (.tmp 13) = _ := hF 4 (det 13 _) (.tail _ (.tail _ (.tail _ (.tail _ (.tail _ (.tail _ (.tail _ (.head _))))))))
  have e14 : ax.eval (.tmp 14) = _ := hF 5 (det 14 _) (.tail _ (.tail _ (.tail _ (.tail _ (.tail _ (.tail _ (.head _)))))))
  have e15 : ax.eval (.tmp 15) = _ := hF 6 (det 15 _) (.tail _ (.tail _ (.tail _ (.tail _ (.tail _ (.head _))))))
  have e16 : ax.eval (.tmp 16) = _ := hF 7 (det 16 _) (.tail _ (.tail _ (.tail _ (.tail _ (.head _)))))
  have e17 : ax.eval (.tmp 17) = _ := hF 8 (det 17 _) (.tail _ (.tail _ (.tail _ (.head _))))
  have e18 : ax.eval (.tmp 18) = _ := hF 9 (det 18 _) (.tail _ (.tail _ (.head _)))
  have e19 : ax.eval (.tmp 19) = _ := hF 10 (det 19 _) (.tail _ (.head _))
  have f4 := hF 11 _ (.head _)
  obtain ⟨D, e4, hD, hDB⟩ := f4
  rw [AllEq.frame (D := [9, 10, 11, 12, 13, 14, 15, 16, 17, 18, 19, 4]) (AllEq.cons e9 (AllEq.cons e10 (AllEq.cons e11 (AllEq.cons e12 (AllEq.cons e13 (AllEq.cons e14 (AllEq.cons e15 (AllEq.cons e16 (AllEq.cons e17 (AllEq.cons e18 (AllEq.cons e19 (AllEq.cons e4 (AllEq.nil))))))))))))) hE rfl]
  clear hF hE e9 e10 e11 e12 e13 e14 e15 e16 e17 e18 e19 e4
  simp only [List.foldl_cons, List.foldl_nil, Act.put, List.setIfInBounds_toArray, List.set_cons_succ, List.set_cons_zero]
  have d0 := hD.cell 0
  have d1 := hD.cell 1
  have d2 := hD.cell 2
  have d3 := hD.cell 3
  have d4 := hD.cell 4
  have k0 := hD.frozen 0
  have k1 := hD.frozen 1
  have k2 := hD.frozen 2
  have k3 := hD.frozen 3
  have k4 := hD.frozen 4
  refine wp_of_skip (by simp [go_sem, d0, d1, d2, d3, d4, k0, k1, k2, k3, k4]; rfl) ?_
  have S1 := head_set hD (.int .u64 g) (.int .i64 r) (.int .i64 0) (.int .i64 0) (.int .i64 c)
  have zD := hD.lt
  have S0 := ((((((HA0.out.ext R1).far (p := ⟨D, 0, none⟩) (by simp; omega) (.int .u64 g)).far (p := ⟨D, 1, none⟩) (by simp; omega) (.int .i64 r)).far (p := ⟨D, 2, none⟩) (by simp; omega) (.int .i64 0)).far (p := ⟨D, 3, none⟩) (by simp; omega) (.int .i64 0)).far (p := ⟨D, 4, none⟩) (by simp; omega) (.int .i64 c))
  have B1 : Below H w w1 := HB0.out.trans (R1.mono (Nat.le_of_lt zA))
  have B2 : Below H w (((((w1.setCell ⟨D, 0, none⟩ (.int .u64 g)).setCell ⟨D, 1, none⟩ (.int .i64 r)).setCell ⟨D, 2, none⟩ (.int .i64 0)).setCell ⟨D, 3, none⟩ (.int .i64 0)).setCell ⟨D, 4, none⟩ (.int .i64 c)) := by
    have hHD : H ≤ D := by omega
    exact ((((B1.setCell hHD _).setCell hHD _).setCell hHD _).setCell hHD _).setCell hHD _
  generalize (((((w1.setCell ⟨D, 0, none⟩ (.int .u64 g)).setCell ⟨D, 1, none⟩ (.int .i64 r)).setCell ⟨D, 2, none⟩ (.int .i64 0)).setCell ⟨D, 3, none⟩ (.int .i64 0)).setCell ⟨D, 4, none⟩ (.int .i64 c)) = w2 at S0 S1 B2 ⊢
  have hHD : H < D := by omega
  clear d0 d1 d2 d3 d4 k0 k1 k2 k3 k4 hD R1 B1 hDB zA HG HR HA0 HB0 zD h1
  have q2 := S1.cell 2
  have u2 := S1.frozen 2
  go_wp2_with fail
  refine (HA.out _).mono ?_
  rintro e w3 ⟨rfl, R3⟩
  clear q2 u2
  have T0 := S0.ext R3
  have T1 := S1.ext R3
  have B3 := B2.trans (R3.mono (Nat.le_of_lt (Nat.lt_trans hHD S1.lt)))
  clear S0 S1 B2 R3
  have q2 := T1.cell 2
  have u2 := T1.frozen 2
  have U0 := T0.far (p := ⟨D, 2, none⟩) (by simp; omega) (.int .i64 a)
  have U1 := T1.set_ 2 (.int .i64 a)
  have B4 := B3.setCell (p := ⟨D, 2, none⟩) (Nat.le_of_lt hHD) (.int .i64 a)
  simp at U1
  go_wp2_with fail
  generalize w3.setCell ⟨D, 2, none⟩ (.int .i64 a) = w4 at U0 U1 B4 ⊢
  clear q2 u2 T0 T1 B3
  refine (HB.out _).mono ?_
  rintro e w5 ⟨rfl, R5⟩
  have T0 := U0.ext R5
  have T1 := U1.ext R5
  have B5 := B4.trans (R5.mono (Nat.le_of_lt (Nat.lt_trans hHD U1.lt)))
  clear U0 U1 B4 R5
  have q3 := T1.cell 3
  have u3 := T1.frozen 3
  have U0 := T0.far (p := ⟨D, 3, none⟩) (by simp; omega) (.int .i64 b)
  have U1 := T1.set_ 3 (.int .i64 b)
  have B6 := B5.setCell (p := ⟨D, 3, none⟩) (Nat.le_of_lt hHD) (.int .i64 b)
  simp at U1
  go_upto_region 6 with fail
  generalize w5.setCell ⟨D, 3, none⟩ (.int .i64 b) = w6 at U0 U1 B6 ⊢
  clear T0 T1 B5 HA HB q3 u3
  have x0 := U1.cell 0
  have x1 := U1.cell 1
  have x2 := U1.cell 2
  have x3 := U1.cell 3
  have x4 := U1.cell 4
  have zD := U1.lt
  have zH := U0.lt
  by_cases hok : HeadOk g r a b c
  · have GY := Lib.hid (fun W => rhgood_yes g r a b c W hok)
    have RB := Lib.hid (fun W => rhbytes_any g r a b c W hok)
    obtain ⟨q, hq⟩ : ∃ q : ByteArray, (⟨(sealL (headL g r a b c)).toArray⟩ : ByteArray) = q := ⟨_, rfl⟩
    rw [hq] at RB
    by_cases hqs : q = s
    · have hv : V = .tuple #[headV g r a b c, .bool true] := by rw [HV.out, if_pos ⟨hok, by rw [← hqs, ← hq]⟩]
      have HI := Lib.hid hv
      have heq : (q.toList == s.toList) = true := by rw [hqs]; simp
      clear hok hq hv HV hqs
      go_wp2_with fail
      refine (GY.out _).mono ?_
      rintro e w7 ⟨rfl, R7⟩
      have V0 := U0.ext R7
      have V1 := U1.ext R7
      have B7 := B6.trans (R7.mono (Nat.le_of_lt zH))
      clear x0 x1 x2 x3 x4 U0 U1 B6 R7
      have x0 := V1.cell 0
      have x1 := V1.cell 1
      have x2 := V1.cell 2
      have x3 := V1.cell 3
      have x4 := V1.cell 4
      have zH7 := V0.lt
      go_wp2_with fail
      refine (RB.out _).mono ?_
      rintro e w8 ⟨rfl, R8⟩
      have W0 := V0.ext R8
      have W1 := V1.ext R8
      have B8 := B7.trans (R8.mono (Nat.le_of_lt zH7))
      clear x0 x1 x2 x3 x4 V0 V1 B7 R8
      have x0 := W1.cell 0
      have x1 := W1.cell 1
      have x2 := W1.cell 2
      have x3 := W1.cell 3
      have x4 := W1.cell 4
      have y0 := W0.cell 0
      have y1 := W0.cell 1
      have y2 := W0.cell 2
      have y3 := W0.cell 3
      have y4 := W0.cell 4
      have f0 := W0.frozen 0
      have f1 := W0.frozen 1
      have f2 := W0.frozen 2
      have f3 := W0.frozen 3
      have f4 := W0.frozen 4
      go_wp2_with fail
      exact rhread_post rfl rfl rfl (head_set W0 (.int .u64 g) (.int .i64 r) (.int .i64 a) (.int .i64 b) (.int .i64 c)) ⟨by rw [HI.out] <;> rfl, by rw [HH.out]; (repeat (first | with_reducible exact Below.refl _ _ | with_reducible assumption | with_reducible apply Below.drew | with_reducible apply below_drewN | (with_reducible refine below_set ?_ ?_; focus ((try simp); (try omega); done)) | (with_reducible refine below_new ?_ ?_; focus ((try simp); (try omega); done))))⟩
    · have hv : V = .tuple #[headV 0 0 0 0 0, .bool false] := by rw [HV.out, if_neg (fun e => hqs (str_ext (by rw [← hq]; simpa using e.2)))]
      have HI := Lib.hid hv
      have heq : (q.toList == s.toList) = false := str_ne hqs
      clear hok hq hv HV hqs
      go_wp2_with fail
      refine (GY.out _).mono ?_
      rintro e w7 ⟨rfl, R7⟩
      have V0 := U0.ext R7
      have V1 := U1.ext R7
      have B7 := B6.trans (R7.mono (Nat.le_of_lt zH))
      clear x0 x1 x2 x3 x4 U0 U1 B6 R7
      have x0 := V1.cell 0
      have x1 := V1.cell 1
      have x2 := V1.cell 2
      have x3 := V1.cell 3
      have x4 := V1.cell 4
      have zH7 := V0.lt
      go_wp2_with fail
      refine (RB.out _).mono ?_
      rintro e w8 ⟨rfl, R8⟩
      have W0 := V0.ext R8
      have W1 := V1.ext R8
      have B8 := B7.trans (R8.mono (Nat.le_of_lt zH7))
      clear x0 x1 x2 x3 x4 V0 V1 B7 R8
      have x0 := W1.cell 0
      have x1 := W1.cell 1
      have x2 := W1.cell 2
      have x3 := W1.cell 3
      have x4 := W1.cell 4
      have y0 := W0.cell 0
      have y1 := W0.cell 1
      have y2 := W0.cell 2
      have y3 := W0.cell 3
      have y4 := W0.cell 4
      have f0 := W0.frozen 0
      have f1 := W0.frozen 1
      have f2 := W0.frozen 2
      have f3 := W0.frozen 3
      have f4 := W0.frozen 4
      go_wp2_with fail
      exact rhread_post rfl rfl rfl (head_set W0 (.int .u64 ((0 : Nat) : Int)) (.int .i64 0) (.int .i64 0) (.int .i64 0) (.int .i64 0)) ⟨by rw [HI.out] <;> rfl, by rw [HH.out]; (repeat (first | with_reducible exact Below.refl _ _ | with_reducible assumption | with_reducible apply Below.drew | with_reducible apply below_drewN | (with_reducible refine below_set ?_ ?_; focus ((try simp); (try omega); done)) | (with_reducible refine below_new ?_ ?_; focus ((try simp); (try omega); done))))⟩
  · have GN := Lib.hid (fun W => rhgood_no g r a b c W hok)
    have hv : V = .tuple #[headV 0 0 0 0 0, .bool false] := by rw [HV.out, if_neg (fun e => hok e.1)]
    have HI := Lib.hid hv
    clear hok hv HV
    go_wp2_with fail
    refine (GN.out _).mono ?_
    rintro e w7 ⟨rfl, R7⟩
    have W0 := U0.ext R7
    have B8 := B6.trans (R7.mono (Nat.le_of_lt zH))
    clear x0 x1 x2 x3 x4 U0 U1 B6 R7
    have y0 := W0.cell 0
    have y1 := W0.cell 1
    have y2 := W0.cell 2
    have y3 := W0.cell 3
    have y4 := W0.cell 4
    have f0 := W0.frozen 0
    have f1 := W0.frozen 1
    have f2 := W0.frozen 2
    have f3 := W0.frozen 3
    have f4 := W0.frozen 4
    go_wp2_with fail
    exact rhread_post rfl rfl rfl (head_set W0 (.int .u64 ((0 : Nat) : Int)) (.int .i64 0) (.int .i64 0) (.int .i64 0) (.int .i64 0)) ⟨by rw [HI.out] <;> rfl, by rw [HH.out]; (repeat (first | with_reducible exact Below.refl _ _ | with_reducible assumption | with_reducible apply Below.drew | with_reducible apply below_drewN | (with_reducible refine below_set ?_ ?_; focus ((try simp); (try omega); done)) | (with_reducible refine below_new ?_ ?_; focus ((try simp); (try omega); done))))⟩
end Go.Proofs.Ytencbdcfcpohaaa
