/- ship: Look, Take. -/
import Derived.Test.YtbfgacmfjfbooaaKShipExact11
import Derived.Test.YtbfgacmfjfbooaaKShipExact01
namespace Go.Proofs.Ytbfgacmfjfbooaa
attribute [local simp] BigFrame.eval_const BigFrame.eval_global BigFrame.eval_func
set_option linter.unusedVariables false
set_option linter.unusedSimpArgs false
open Go.RowKit

theorem exts_ok (f g : Nat → UInt8) (n : Nat) (hn : n ≤ 4096) : (extsL (exts f g n)).length ≤ 800000 ∧ ∀ x ∈ exts f g n, x.1 < 4294967296 ∧ x.2.size % 16 = 0 ∧ 1 ≤ x.2.size / 16 ∧ x.2.size / 16 ≤ n := by
  have h1 := Z32 f g n
  have h2 := Z2j f g n
  have h3 := Z75 f g n
  exact ⟨by omega, fun x hx => by have := Z63 f g n x hx; omega⟩
theorem Z4g (f g : Nat → UInt8) (n : Nat) (hn : n ≤ 4096) (s : ByteArray) (hs : s.data.toList = chgL f g n) (w : World) :
    Calls Try.prog 27 #[.string s] w fun e w' => ∃ A cap, e = .returned (.tuple #[streamV 2 n (crcX f n) (crcX g n), .slice A (exts f g n).length cap, .int .i64 0]) ∧ Row w' A 2 xC (exts f g n) ∧ Ext w w' := by
  obtain ⟨h1, h2⟩ := exts_ok f g n hn
  exact Z6u 2 n (crcX f n) (crcX g n) (exts f g n) _ rfl s hs (by decide) hn (Z2k f n) (Z2k g n) (Z32 f g n) h1 h2 (fun W A cap hrow => Z7g n _ _ f g hn W A cap hrow) w
theorem read_all (g : Nat → UInt8) (n : Nat) (hn : n ≤ 4096) (s : ByteArray) (hs : s.data.toList = allL g n) (w : World) :
    Calls Try.prog 27 #[.string s] w fun e w' => ∃ A cap, e = .returned (.tuple #[streamV 1 n 0 (crcX g n), .slice A (exts zf g n).length cap, .int .i64 0]) ∧ Row w' A 2 xC (exts zf g n) ∧ Ext w w' := by
  obtain ⟨h1, h2⟩ := exts_ok zf g n hn
  exact Z6u 1 n 0 (crcX g n) (exts zf g n) _ rfl s hs (by decide) hn (by decide) (Z2k g n) (Z32 zf g n) h1 h2 (fun W A cap hrow => Z7h n g hn W A cap hrow) w

theorem look_post {R : Ending → World → Prop} {ac : Act} {w : World} {X k n was is : Nat} {x : Int} (h2 : ac.tmps[2]?.getD undef = .pointer (some ⟨X, 0, none⟩)) (h3 : ac.tmps[3]?.getD undef = .int .i64 x) (hd : ac.defers = [])
    (hF : Blk w X 33 #[.int .i64 k, .int .i64 n, .int .u32 was, .int .u32 is]) (hR : R (.returned (.tuple #[streamV k n was is, .int .i64 x])) w) : bodyPost Try.prog Try.f9 R .ret ac w := by
  obtain ⟨tm, df⟩ := ac
  simp only at h2 h3 hd
  have p0 := hF.cell 0
  have p1 := hF.cell 1
  have p2 := hF.cell 2
  have p3 := hF.cell 3
  exact bodyPost_ret (v := .tuple #[streamV k n was is, .int .i64 x]) (by simp [results, Try.results9, go_sem, h2, h3, p0, p1, p2, p3]) hd hR
theorem look_any (s : ByteArray) (k n was is : Nat) (x : Int) (w : World) (h : ∀ W, Calls Try.prog 27 #[.string s] W fun e w' => ∃ A len cap, e = .returned (.tuple #[streamV k n was is, .slice A len cap, .int .i64 x]) ∧ Ext W w') :
    Calls Try.prog 9 #[.string s] w fun e w' => e = .returned (.tuple #[streamV k n was is, .int .i64 x]) ∧ Ext w w' := by
  have H := Lib.hid h
  have O0 := (Own.start w).new 33 #[.int .i64 0, .int .i64 0, .int .u32 0, .int .u32 0]
  clear h
  go_enter Try.func9, Try.ntmps9
  go_wp2_with fail
  refine (H.out _).mono ?_
  rintro e w1 ⟨A, len, cap, rfl, R1⟩
  have O1 := (O0.ext R1).new 33 #[.int .i64 k, .int .i64 n, .int .u32 was, .int .u32 is]
  have k0 := O1.all.1.cell 0
  have k1 := O1.all.1.cell 1
  have k2 := O1.all.1.cell 2
  have k3 := O1.all.1.cell 3
  have r0 := O1.all.2.1.cell 0
  have r1 := O1.all.2.1.cell 1
  have r2 := O1.all.2.1.cell 2
  have r3 := O1.all.2.1.cell 3
  have g0 := O1.all.2.1.frozen 0
  have g1 := O1.all.2.1.frozen 1
  have g2 := O1.all.2.1.frozen 2
  have g3 := O1.all.2.1.frozen 3
  clear O0 R1 H
  have HO := Lib.hid O1
  clear O1
  go_wp2_with fail
  have O2 := (((HO.out.set (L1 := [_]) rfl 0 (.int .i64 k)).set (L1 := [_]) rfl 1 (.int .i64 n)).set (L1 := [_]) rfl 2 (.int .u32 was)).set (L1 := [_]) rfl 3 (.int .u32 is)
  exact look_post (k := k) (n := n) (was := was) (is := is) (x := x) rfl rfl rfl O2.all.2.1 ⟨rfl, O2.below⟩
theorem look_chg (f g : Nat → UInt8) (n : Nat) (hn : n ≤ 4096) (s : ByteArray) (hs : s.data.toList = chgL f g n) (w : World) :
    Calls Try.prog 9 #[.string s] w fun e w' => e = .returned (.tuple #[streamV 2 n (crcX f n) (crcX g n), .int .i64 0]) ∧ Ext w w' :=
  look_any s 2 n _ _ 0 w (fun W => (Z4g f g n hn s hs W).mono (fun _ _ ⟨A, cap, he, _, hE⟩ => ⟨A, _, cap, he, hE⟩))
set_option maxRecDepth 100000 in
set_option maxHeartbeats 4000000 in
theorem Z5r (f g h : Nat → UInt8) (n : Nat) (hn : n ≤ 4096) (S s : ByteArray) (hS : txt h n = S) (hs : s.data.toList = chgL f g n) (hc : crcX h n ≠ crcX f n) (w : World) :
    Calls Try.prog 10 #[.string S, .string s] w fun e w' => e = .returned (.tuple #[.string ⟨#[]⟩, .int .i64 11]) ∧ Ext w w' := by
  have HRD := Lib.hid (Z4g f g n hn s hs)
  obtain ⟨ch, hch⟩ : ∃ c, crcX h n = c := ⟨_, rfl⟩
  have HS := Lib.hid (Z1n h n hn S hS ch hch)
  rw [hch] at hc
  obtain ⟨cf, hcf⟩ : ∃ c, crcX f n = c := ⟨_, rfl⟩
  obtain ⟨cg, hcg⟩ : ∃ c, crcX g n = c := ⟨_, rfl⟩
  rw [hcf] at hc HRD
  rw [hcg] at HRD
  obtain ⟨len, hlen⟩ : ∃ l, (exts f g n).length = l := ⟨_, rfl⟩
  rw [hlen] at HRD
  have hSs : S.size = 16 * n := by rw [← hS]; exact Z09 h n
  have hwm : IntKind.i64.wrap ((n : Int) * 16) = (S.size : Int) := by rw [IntWalk.i64_in _ (by omega)]; omega
  have dn : ((S.size : Int) != (S.size : Int)) = false := by simp
  have dc : ((ch : Int) != (cf : Int)) = true := by rw [bne_iff_ne]; omega
  have dc2 : ((ch : Int) == (cf : Int)) = false := by rw [beq_eq_false_iff_ne]; omega
  clear hSs hch hcf hcg hlen hs hS hc
  go_enter Try.func10, Try.ntmps10
  go_wp2_with fail
  refine (HRD.out _).mono ?_
  rintro e w1 ⟨A, cap, rfl, hrow, R1⟩
  have E1 := Ext.alloc w1 (.cells #[.int .i64 2, .int .i64 n, .int .u32 cf, .int .u32 cg] 33)
  have hX := Blk.new w1 33 #[.int .i64 2, .int .i64 n, .int .u32 cf, .int .u32 cg]
  have k0 := hX.cell 0
  have HX := Lib.hid hX
  have hE := R1.trans E1
  clear hrow hX
  go_upto_region 6 with fail
  clear k0
  refine Z06 (R := Ext) (w0 := (w1.alloc (.cells #[.int .i64 2, .int .i64 n, .int .u32 cf, .int .u32 cg] 33))) [[], [0], [], [2], [2, 3], [0, 1, 2, 3, 4], [0, 1, 2, 3, 4, 5], [0, 1, 2, 3, 4, 5, 6], [0, 1, 2, 3, 4, 5, 6, 7], [0, 1, 2, 3, 4, 5, 6], [0, 1, 2, 3, 4, 5, 6, 9], [0, 1, 2, 3, 4, 5, 6, 7, 8, 9, 10], [0, 1, 2, 3, 4, 5, 6, 7, 8, 9, 10, 11]] [25, 26, 27, 28, 29, 30, 31, 32, 33, 34, 35, 36, 37] Ext.refl (fun _ _ _ => Ext.trans) (Ext.drew _) (by kernel_rfl) ?_
  apply Build.det 25 Ext.refl (by rfl) (by rfl) rfl
  case h =>
    intro ax wx hE hR hF
    have e0 : ax.eval (.tmp 0) = .string S := hE.eval 0 (by rfl) rfl
    simp [go_sem, ↓IntWalk.iteOmega, ev e0, hwm, dn, dc, dc2]
    with_reducible rfl
  apply Build.det 26 Ext.refl (by rfl) (by rfl) rfl
  case h =>
    intro ax wx hE hR hF
    have e25 := hF 0 (det 25 _) (by decide) (.head _)
    simp [go_sem, ↓IntWalk.iteOmega, ev e25, hwm, dn, dc, dc2]
    with_reducible rfl
  apply Build.det 27 Ext.refl (by rfl) (by rfl) rfl
  case h =>
    intro ax wx hE hR hF
    have e6 : ax.eval (.tmp 6) = .pointer (some ⟨w1.heap.size, 0, none⟩) := hE.eval 6 (by rfl) rfl
    simp [go_sem, ↓IntWalk.iteOmega, ev e6, hwm, dn, dc, dc2]
    with_reducible rfl
  apply Build.det 28 Ext.refl (by rfl) (by rfl) rfl
  case h =>
    intro ax wx hE hR hF
    have e27 := hF 2 (det 27 _) (by decide) (.head _)
    have hX4 := HX.out.ext hR; have q1 := hX4.cell 1; have q2 := hX4.cell 2
    simp [go_sem, ↓IntWalk.iteOmega, ev e27, hwm, dn, dc, dc2, q1, q2]
    with_reducible rfl
  apply Build.det 29 Ext.refl (by rfl) (by rfl) rfl
  case h =>
    intro ax wx hE hR hF
    have e28 := hF 3 (det 28 _) (by decide) (.head _)
    simp [go_sem, ↓IntWalk.iteOmega, ev e28, hwm, dn, dc, dc2]
    with_reducible rfl
  apply Build.det 30 Ext.refl (by rfl) (by rfl) rfl
  case h =>
    intro ax wx hE hR hF
    have e26 := hF 1 (det 26 _) (by decide) (.tail _ (.tail _ (.tail _ (.head _))))
    have e29 := hF 4 (det 29 _) (by decide) (.head _)
    simp [go_sem, ↓IntWalk.iteOmega, ev e26, ev e29, hwm, dn, dc, dc2]
    with_reducible rfl
  apply Build.det 31 Ext.refl (by rfl) (by rfl) rfl
  case h =>
    intro ax wx hE hR hF
    have e30 := hF 5 (det 30 _) (by decide) (.head _)
    simp [go_sem, ↓IntWalk.iteOmega, ev e30, hwm, dn, dc, dc2]
    with_reducible rfl
  apply Build.detg 32 Ext.refl (by rfl) (by rfl) rfl rfl
  case h =>
    intro ax wx hE hR hF
    have e0 : ax.eval (.tmp 0) = .string S := hE.eval 0 (by rfl) rfl
    have e31 := hF 6 (det 31 _) (by decide) (.head _)
    refine ⟨e31, ?_⟩
    simp [go_sem, ↓IntWalk.iteOmega, ev e0, ev e31, hwm, dn, dc, dc2]
    with_reducible rfl
  apply Build.callg 33 Ext.refl (by rfl) (by rfl) rfl rfl
  case h =>
    intro ax wx hE hR hF
    have e31 := hF 6 (det 31 _) (by decide) (.tail _ (.head _))
    have e32 := hF 7 (det 32 _) (by decide) (.head _)
    refine ⟨e31, ?_⟩
    simp [go_sem, ↓IntWalk.iteOmega, ev e31, ev e32, hwm, dn, dc, dc2]
    with_reducible exact ⟨rfl, rfl⟩
  case hc => intro wx hR; with_reducible exact HS.out wx
  apply Build.detg 34 Ext.refl (by rfl) (by rfl) rfl rfl
  case h =>
    intro ax wx hE hR hF
    have e6 : ax.eval (.tmp 6) = .pointer (some ⟨w1.heap.size, 0, none⟩) := hE.eval 6 (by rfl) rfl
    have e31 := hF 6 (det 31 _) (by decide) (.tail _ (.tail _ (.head _)))
    refine ⟨e31, ?_⟩
    simp [go_sem, ↓IntWalk.iteOmega, ev e6, ev e31, hwm, dn, dc, dc2]
    with_reducible rfl
  apply Build.detg 35 Ext.refl (by rfl) (by rfl) rfl rfl
  case h =>
    intro ax wx hE hR hF
    have e31 := hF 6 (det 31 _) (by decide) (.tail _ (.tail _ (.tail _ (.head _))))
    have e34 := hF 9 (det 34 _) (by decide) (.head _)
    have hX4 := HX.out.ext hR; have q1 := hX4.cell 1; have q2 := hX4.cell 2
    refine ⟨e31, ?_⟩
    simp [go_sem, ↓IntWalk.iteOmega, ev e31, ev e34, hwm, dn, dc, dc2, q1, q2]
    with_reducible rfl
  apply Build.detg 36 Ext.refl (by rfl) (by rfl) rfl rfl
  case h =>
    intro ax wx hE hR hF
    have e31 := hF 6 (det 31 _) (by decide) (mem4 (.head _))
    have e33 := hF 8 (det 33 _) (by decide) (.tail _ (.tail _ (.head _)))
    have e35 := hF 10 (det 35 _) (by decide) (.head _)
    refine ⟨e31, ?_⟩
    simp [go_sem, ↓IntWalk.iteOmega, ev e31, ev e33, ev e35, hwm, dn, dc, dc2]
    with_reducible rfl
  apply Build.det 37 Ext.refl (by rfl) (by rfl) rfl
  case h =>
    intro ax wx hE hR hF
    have e31 := hF 6 (det 31 _) (by decide) (mem4 (.tail _ (.head _)))
    have e36 := hF 11 (det 36 _) (by decide) (.head _)
    simp [go_sem, ↓IntWalk.iteOmega, ev e31, ev e36, hwm, dn, dc, dc2]
    with_reducible rfl
  apply Build.stop
  refine ⟨by kernel_rfl, .inl ⟨rfl, ?_⟩⟩
  intro ax w4 hE R4 hF
  have e25 := hF 0 (det 25 _) (mem4 (mem4 (mem4 (.head _))))
  have e26 := hF 1 (det 26 _) (mem4 (mem4 (.tail _ (.tail _ (.tail _ (.head _))))))
  have e27 := hF 2 (det 27 _) (mem4 (mem4 (.tail _ (.tail _ (.head _)))))
  have e28 := hF 3 (det 28 _) (mem4 (mem4 (.tail _ (.head _))))
  have e29 := hF 4 (det 29 _) (mem4 (mem4 (.head _)))
  have e30 := hF 5 (det 30 _) (mem4 (.tail _ (.tail _ (.tail _ (.head _)))))
  have e31 := hF 6 (det 31 _) (mem4 (.tail _ (.tail _ (.head _))))
  have e32 := hF 7 (det 32 _) (mem4 (.tail _ (.head _)))
  have e33 := hF 8 (det 33 _) (mem4 (.head _))
  have e34 := hF 9 (det 34 _) (.tail _ (.tail _ (.tail _ (.head _))))
  have e35 := hF 10 (det 35 _) (.tail _ (.tail _ (.head _)))
  have e36 := hF 11 (det 36 _) (.tail _ (.head _))
  have e37 := hF 12 (det 37 _) (.head _)
  rw [AllEq.frame (D := [25, 26, 27, 28, 29, 30, 31, 32, 33, 34, 35, 36, 37]) (AllEq.cons e25 (AllEq.cons e26 (AllEq.cons e27 (AllEq.cons e28 (AllEq.cons e29 (AllEq.cons e30 (AllEq.cons e31 (AllEq.cons e32 (AllEq.cons e33 (AllEq.cons e34 (AllEq.cons e35 (AllEq.cons e36 (AllEq.cons e37 (AllEq.nil)))))))))))))) hE rfl]
  clear hF hE e25 e26 e27 e28 e29 e30 e31 e32 e33 e34 e35 e36 e37
  simp only [List.foldl_cons, List.foldl_nil, Act.put, List.setIfInBounds_toArray, List.set_cons_succ, List.set_cons_zero]
  go_wp2_with fail
  go_ret2
  exact ⟨rfl, hE.trans R4⟩
set_option maxRecDepth 100000 in
set_option maxHeartbeats 4000000 in
theorem Z4u (f g h : Nat → UInt8) (n : Nat) (hn : n ≤ 4096) (S s T : ByteArray) (hS : txt h n = S) (hT : txt g n = T) (hs : s.data.toList = chgL f g n) (hc : crcX h n = crcX f n) (hq : txt (fun i => if g i = f i then h i else g i) n = txt g n) (w : World) :
    Calls Try.prog 10 #[.string S, .string s] w fun e w' => e = .returned (.tuple #[.string T, .int .i64 0]) ∧ Ext w w' := by
  have HRD := Lib.hid (Z4g f g n hn s hs)
  obtain ⟨cf, hcf⟩ : ∃ c, crcX f n = c := ⟨_, rfl⟩
  obtain ⟨cg, hcg⟩ : ∃ c, crcX g n = c := ⟨_, rfl⟩
  have HS := Lib.hid (Z1n h n hn S hS cf (hc.trans hcf))
  have HG := Lib.hid (Z1n g n hn T hT cg hcg)
  obtain ⟨len, hlen⟩ : ∃ l, (exts f g n).length = l := ⟨_, rfl⟩
  have ap := fun W A cap => Z21 f g h n (by omega) T (hq.trans hT) A len cap W hlen
  rw [hS] at ap
  have HA := Lib.hid ap
  rw [hcf, hcg, hlen] at HRD
  have hSs : S.size = 16 * n := by rw [← hS]; exact Z09 h n
  have hwm : IntKind.i64.wrap ((n : Int) * 16) = (S.size : Int) := by rw [IntWalk.i64_in _ (by omega)]; omega
  have dn : ((S.size : Int) != (S.size : Int)) = false := by simp
  have dc : ((cf : Int) != (cf : Int)) = false := by simp
  have dg : ((cg : Int) != (cg : Int)) = false := by simp
  clear hSs hcf hcg hs hS hT hc hq ap
  go_enter Try.func10, Try.ntmps10
  go_wp2_with fail
  refine (HRD.out _).mono ?_
  rintro e w1 ⟨A, cap, rfl, hrow, R1⟩
  have E1 := Ext.alloc w1 (.cells #[.int .i64 2, .int .i64 n, .int .u32 cf, .int .u32 cg] 33)
  have hX := Blk.new w1 33 #[.int .i64 2, .int .i64 n, .int .u32 cf, .int .u32 cg]
  have k0 := hX.cell 0
  have HX := Lib.hid hX
  have hE := R1.trans E1
  have HRW := Lib.hid (hrow.extx E1)
  clear hrow hX
  go_upto_region 6 with fail
  clear k0
  refine Z06 (R := Ext) (w0 := (w1.alloc (.cells #[.int .i64 2, .int .i64 n, .int .u32 cf, .int .u32 cg] 33))) [[], [0], [], [2], [2, 3], [0, 1, 2, 3, 4], [0, 1, 2, 3, 4, 5], [0, 1, 2, 3, 4, 5, 6], [0, 1, 2, 3, 4, 5, 6, 7], [0, 1, 2, 3, 4, 5, 6], [0, 1, 2, 3, 4, 5, 6, 9], [0, 1, 2, 3, 4, 5, 6, 7, 8, 9, 10], [0, 1, 2, 3, 4, 5, 6, 7, 8, 9, 10, 11]] [25, 26, 27, 28, 29, 30, 31, 32, 33, 34, 35, 36, 37] Ext.refl (fun _ _ _ => Ext.trans) (Ext.drew _) (by kernel_rfl) ?_
  apply Build.det 25 Ext.refl (by rfl) (by rfl) rfl
  case h =>
    intro ax wx hE hR hF
    have e0 : ax.eval (.tmp 0) = .string S := hE.eval 0 (by rfl) rfl
    simp [go_sem, ↓IntWalk.iteOmega, ev e0, hwm, dn, dc]
    with_reducible rfl
  apply Build.det 26 Ext.refl (by rfl) (by rfl) rfl
  case h =>
    intro ax wx hE hR hF
    have e25 := hF 0 (det 25 _) (by decide) (.head _)
    simp [go_sem, ↓IntWalk.iteOmega, ev e25, hwm, dn, dc]
    with_reducible rfl
  apply Build.det 27 Ext.refl (by rfl) (by rfl) rfl
  case h =>
    intro ax wx hE hR hF
    have e6 : ax.eval (.tmp 6) = .pointer (some ⟨w1.heap.size, 0, none⟩) := hE.eval 6 (by rfl) rfl
    simp [go_sem, ↓IntWalk.iteOmega, ev e6, hwm, dn, dc]
    with_reducible rfl
  apply Build.det 28 Ext.refl (by rfl) (by rfl) rfl
  case h =>
    intro ax wx hE hR hF
    have e27 := hF 2 (det 27 _) (by decide) (.head _)
    have hX4 := HX.out.ext hR; have q1 := hX4.cell 1; have q2 := hX4.cell 2
    simp [go_sem, ↓IntWalk.iteOmega, ev e27, hwm, dn, dc, q1, q2]
    with_reducible rfl
  apply Build.det 29 Ext.refl (by rfl) (by rfl) rfl
  case h =>
    intro ax wx hE hR hF
    have e28 := hF 3 (det 28 _) (by decide) (.head _)
    simp [go_sem, ↓IntWalk.iteOmega, ev e28, hwm, dn, dc]
    with_reducible rfl
  apply Build.det 30 Ext.refl (by rfl) (by rfl) rfl
  case h =>
    intro ax wx hE hR hF
    have e26 := hF 1 (det 26 _) (by decide) (.tail _ (.tail _ (.tail _ (.head _))))
    have e29 := hF 4 (det 29 _) (by decide) (.head _)
    simp [go_sem, ↓IntWalk.iteOmega, ev e26, ev e29, hwm, dn, dc]
    with_reducible rfl
  apply Build.det 31 Ext.refl (by rfl) (by rfl) rfl
  case h =>
    intro ax wx hE hR hF
    have e30 := hF 5 (det 30 _) (by decide) (.head _)
    simp [go_sem, ↓IntWalk.iteOmega, ev e30, hwm, dn, dc]
    with_reducible rfl
  apply Build.detg 32 Ext.refl (by rfl) (by rfl) rfl rfl
  case h =>
    intro ax wx hE hR hF
    have e0 : ax.eval (.tmp 0) = .string S := hE.eval 0 (by rfl) rfl
    have e31 := hF 6 (det 31 _) (by decide) (.head _)
    refine ⟨e31, ?_⟩
    simp [go_sem, ↓IntWalk.iteOmega, ev e0, ev e31, hwm, dn, dc]
    with_reducible rfl
  apply Build.callg 33 Ext.refl (by rfl) (by rfl) rfl rfl
  case h =>
    intro ax wx hE hR hF
    have e31 := hF 6 (det 31 _) (by decide) (.tail _ (.head _))
    have e32 := hF 7 (det 32 _) (by decide) (.head _)
    refine ⟨e31, ?_⟩
    simp [go_sem, ↓IntWalk.iteOmega, ev e31, ev e32, hwm, dn, dc]
    with_reducible exact ⟨rfl, rfl⟩
  case hc => intro wx hR; with_reducible exact HS.out wx
  apply Build.detg 34 Ext.refl (by rfl) (by rfl) rfl rfl
  case h =>
    intro ax wx hE hR hF
    have e6 : ax.eval (.tmp 6) = .pointer (some ⟨w1.heap.size, 0, none⟩) := hE.eval 6 (by rfl) rfl
    have e31 := hF 6 (det 31 _) (by decide) (.tail _ (.tail _ (.head _)))
    refine ⟨e31, ?_⟩
    simp [go_sem, ↓IntWalk.iteOmega, ev e6, ev e31, hwm, dn, dc]
    with_reducible rfl
  apply Build.detg 35 Ext.refl (by rfl) (by rfl) rfl rfl
  case h =>
    intro ax wx hE hR hF
    have e31 := hF 6 (det 31 _) (by decide) (.tail _ (.tail _ (.tail _ (.head _))))
    have e34 := hF 9 (det 34 _) (by decide) (.head _)
    have hX4 := HX.out.ext hR; have q1 := hX4.cell 1; have q2 := hX4.cell 2
    refine ⟨e31, ?_⟩
    simp [go_sem, ↓IntWalk.iteOmega, ev e31, ev e34, hwm, dn, dc, q1, q2]
    with_reducible rfl
  apply Build.detg 36 Ext.refl (by rfl) (by rfl) rfl rfl
  case h =>
    intro ax wx hE hR hF
    have e31 := hF 6 (det 31 _) (by decide) (mem4 (.head _))
    have e33 := hF 8 (det 33 _) (by decide) (.tail _ (.tail _ (.head _)))
    have e35 := hF 10 (det 35 _) (by decide) (.head _)
    refine ⟨e31, ?_⟩
    simp [go_sem, ↓IntWalk.iteOmega, ev e31, ev e33, ev e35, hwm, dn, dc]
    with_reducible rfl
  apply Build.det 37 Ext.refl (by rfl) (by rfl) rfl
  case h =>
    intro ax wx hE hR hF
    have e31 := hF 6 (det 31 _) (by decide) (mem4 (.tail _ (.head _)))
    have e36 := hF 11 (det 36 _) (by decide) (.head _)
    simp [go_sem, ↓IntWalk.iteOmega, ev e31, ev e36, hwm, dn, dc]
    with_reducible rfl
  apply Build.stop
  refine ⟨by kernel_rfl, .inl ⟨rfl, ?_⟩⟩
  intro ax w4 hE R4 hF
  have e25 := hF 0 (det 25 _) (mem4 (mem4 (mem4 (.head _))))
  have e26 := hF 1 (det 26 _) (mem4 (mem4 (.tail _ (.tail _ (.tail _ (.head _))))))
  have e27 := hF 2 (det 27 _) (mem4 (mem4 (.tail _ (.tail _ (.head _)))))
  have e28 := hF 3 (det 28 _) (mem4 (mem4 (.tail _ (.head _))))
  have e29 := hF 4 (det 29 _) (mem4 (mem4 (.head _)))
  have e30 := hF 5 (det 30 _) (mem4 (.tail _ (.tail _ (.tail _ (.head _)))))
  have e31 := hF 6 (det 31 _) (mem4 (.tail _ (.tail _ (.head _))))
  have e32 := hF 7 (det 32 _) (mem4 (.tail _ (.head _)))
  have e33 := hF 8 (det 33 _) (mem4 (.head _))
  have e34 := hF 9 (det 34 _) (.tail _ (.tail _ (.tail _ (.head _))))
  have e35 := hF 10 (det 35 _) (.tail _ (.tail _ (.head _)))
  have e36 := hF 11 (det 36 _) (.tail _ (.head _))
  have e37 := hF 12 (det 37 _) (.head _)
  rw [AllEq.frame (D := [25, 26, 27, 28, 29, 30, 31, 32, 33, 34, 35, 36, 37]) (AllEq.cons e25 (AllEq.cons e26 (AllEq.cons e27 (AllEq.cons e28 (AllEq.cons e29 (AllEq.cons e30 (AllEq.cons e31 (AllEq.cons e32 (AllEq.cons e33 (AllEq.cons e34 (AllEq.cons e35 (AllEq.cons e36 (AllEq.cons e37 (AllEq.nil)))))))))))))) hE rfl]
  clear hF hE e25 e26 e27 e28 e29 e30 e31 e32 e33 e34 e35 e36 e37
  simp only [List.foldl_cons, List.foldl_nil, Act.put, List.setIfInBounds_toArray, List.set_cons_succ, List.set_cons_zero]
  go_wp2_with fail
  refine (HA.out _ _ _ (HRW.out.extx R4)).mono ?_
  rintro e w5 ⟨rfl, R5⟩
  have R45 := R4.trans R5
  go_upto_region 9 with fail
  refine Z06 (R := Ext) (w0 := w5) [[], [0], [0, 1], [0, 1, 2], [0, 1, 2, 3], [0, 1, 2], [0, 1, 2, 5], [0, 1, 2, 3, 4, 5, 6], [0, 1, 2, 3, 4, 5, 6, 7]] [44, 45, 46, 47, 48, 49, 50, 51, 52] Ext.refl (fun _ _ _ => Ext.trans) (Ext.drew _) (by kernel_rfl) ?_
  apply Build.det 44 Ext.refl (by rfl) (by rfl) rfl
  case h =>
    intro ax wx hE hR hF
    have e8 : ax.eval (.tmp 8) = .int .i64 0 := hE.eval 8 (by rfl) rfl
    simp [go_sem, ↓IntWalk.iteOmega, ev e8, dg]
    with_reducible rfl
  apply Build.det 45 Ext.refl (by rfl) (by rfl) rfl
  case h =>
    intro ax wx hE hR hF
    have e44 := hF 0 (det 44 _) (by decide) (.head _)
    simp [go_sem, ↓IntWalk.iteOmega, ev e44, dg]
    with_reducible rfl
  apply Build.det 46 Ext.refl (by rfl) (by rfl) rfl
  case h =>
    intro ax wx hE hR hF
    have e45 := hF 1 (det 45 _) (by decide) (.head _)
    simp [go_sem, ↓IntWalk.iteOmega, ev e45, dg]
    with_reducible rfl
  apply Build.detg 47 Ext.refl (by rfl) (by rfl) rfl rfl
  case h =>
    intro ax wx hE hR hF
    have e9 : ax.eval (.tmp 9) = .string T := hE.eval 9 (by rfl) rfl
    have e46 := hF 2 (det 46 _) (by decide) (.head _)
    refine ⟨e46, ?_⟩
    simp [go_sem, ↓IntWalk.iteOmega, ev e9, ev e46, dg]
    with_reducible rfl
  apply Build.callg 48 Ext.refl (by rfl) (by rfl) rfl rfl
  case h =>
    intro ax wx hE hR hF
    have e46 := hF 2 (det 46 _) (by decide) (.tail _ (.head _))
    have e47 := hF 3 (det 47 _) (by decide) (.head _)
    refine ⟨e46, ?_⟩
    simp [go_sem, ↓IntWalk.iteOmega, ev e46, ev e47, dg]
    with_reducible exact ⟨rfl, rfl⟩
  case hc => intro wx hR; with_reducible exact HG.out wx
  apply Build.detg 49 Ext.refl (by rfl) (by rfl) rfl rfl
  case h =>
    intro ax wx hE hR hF
    have e6 : ax.eval (.tmp 6) = .pointer (some ⟨w1.heap.size, 0, none⟩) := hE.eval 6 (by rfl) rfl
    have e46 := hF 2 (det 46 _) (by decide) (.tail _ (.tail _ (.head _)))
    refine ⟨e46, ?_⟩
    simp [go_sem, ↓IntWalk.iteOmega, ev e6, ev e46, dg]
    with_reducible rfl
  apply Build.detg 50 Ext.refl (by rfl) (by rfl) rfl rfl
  case h =>
    intro ax wx hE hR hF
    have e46 := hF 2 (det 46 _) (by decide) (.tail _ (.tail _ (.tail _ (.head _))))
    have e49 := hF 5 (det 49 _) (by decide) (.head _)
    have hX4 := HX.out.ext (R45.trans hR); have q3 := hX4.cell 3
    refine ⟨e46, ?_⟩
    simp [go_sem, ↓IntWalk.iteOmega, ev e46, ev e49, dg, q3]
    with_reducible rfl
  apply Build.detg 51 Ext.refl (by rfl) (by rfl) rfl rfl
  case h =>
    intro ax wx hE hR hF
    have e46 := hF 2 (det 46 _) (by decide) (mem4 (.head _))
    have e48 := hF 4 (det 48 _) (by decide) (.tail _ (.tail _ (.head _)))
    have e50 := hF 6 (det 50 _) (by decide) (.head _)
    refine ⟨e46, ?_⟩
    simp [go_sem, ↓IntWalk.iteOmega, ev e46, ev e48, ev e50, dg]
    with_reducible rfl
  apply Build.det 52 Ext.refl (by rfl) (by rfl) rfl
  case h =>
    intro ax wx hE hR hF
    have e46 := hF 2 (det 46 _) (by decide) (mem4 (.tail _ (.head _)))
    have e51 := hF 7 (det 51 _) (by decide) (.head _)
    simp [go_sem, ↓IntWalk.iteOmega, ev e46, ev e51, dg]
    with_reducible rfl
  apply Build.stop
  refine ⟨by kernel_rfl, .inl ⟨rfl, ?_⟩⟩
  intro ax w6 hE R6 hF
  have e44 := hF 0 (det 44 _) (mem4 (mem4 (.head _)))
  have e45 := hF 1 (det 45 _) (mem4 (.tail _ (.tail _ (.tail _ (.head _)))))
  have e46 := hF 2 (det 46 _) (mem4 (.tail _ (.tail _ (.head _))))
  have e47 := hF 3 (det 47 _) (mem4 (.tail _ (.head _)))
  have e48 := hF 4 (det 48 _) (mem4 (.head _))
  have e49 := hF 5 (det 49 _) (.tail _ (.tail _ (.tail _ (.head _))))
  have e50 := hF 6 (det 50 _) (.tail _ (.tail _ (.head _)))
  have e51 := hF 7 (det 51 _) (.tail _ (.head _))
  have e52 := hF 8 (det 52 _) (.head _)
  rw [AllEq.frame (D := [44, 45, 46, 47, 48, 49, 50, 51, 52]) (AllEq.cons e44 (AllEq.cons e45 (AllEq.cons e46 (AllEq.cons e47 (AllEq.cons e48 (AllEq.cons e49 (AllEq.cons e50 (AllEq.cons e51 (AllEq.cons e52 (AllEq.nil)))))))))) hE rfl]
  clear hF hE e44 e45 e46 e47 e48 e49 e50 e51 e52
  simp only [List.foldl_cons, List.foldl_nil, Act.put, List.setIfInBounds_toArray, List.set_cons_succ, List.set_cons_zero]
  go_wp2_with fail
  go_ret2
  exact ⟨rfl, (hE.trans R45).trans R6⟩
set_option maxRecDepth 100000 in
set_option maxHeartbeats 4000000 in
theorem take_all (g : Nat → UInt8) (n : Nat) (hn : n ≤ 4096) (S s T : ByteArray) (hT : txt g n = T) (hs : s.data.toList = allL g n) (w : World) :
    Calls Try.prog 10 #[.string S, .string s] w fun e w' => e = .returned (.tuple #[.string T, .int .i64 0]) ∧ Ext w w' := by
  have HRD := Lib.hid (read_all g n hn s hs)
  obtain ⟨cg, hcg⟩ : ∃ c, crcX g n = c := ⟨_, rfl⟩
  have HG := Lib.hid (Z1n g n hn T hT cg hcg)
  obtain ⟨Z, hZ⟩ : ∃ q, txt zf n = q := ⟨_, rfl⟩
  have HZ := Lib.hid (Z1l n (by omega) Z hZ)
  obtain ⟨len, hlen⟩ : ∃ l, (exts zf g n).length = l := ⟨_, rfl⟩
  have hqq : txt (fun i => if g i = zf i then zf i else g i) n = txt g n := by
    rw [Z7y]; intro i _; split <;> simp_all
  have ap : ∀ (W : World) (A : Option Addr) (cap : Nat), Row W A 2 xC (exts zf g n) → Calls Try.prog 28 #[.string (txt zf n), .slice A len cap] W fun e w' => e = .returned (.tuple #[.string T, .int .i64 0]) ∧ Ext W w' := fun W A cap => Z21 zf g zf n (by omega) T (hqq.trans hT) A len cap W hlen
  rw [hZ] at ap
  have HA := Lib.hid ap
  rw [hcg, hlen] at HRD
  have dg : ((cg : Int) != (cg : Int)) = false := by simp
  clear hcg hs hT hqq ap hZ
  go_enter Try.func10, Try.ntmps10
  go_wp2_with fail
  refine (HRD.out _).mono ?_
  rintro e w1 ⟨A, cap, rfl, hrow, R1⟩
  have E1 := Ext.alloc w1 (.cells #[.int .i64 1, .int .i64 n, .int .u32 0, .int .u32 cg] 33)
  have hX := Blk.new w1 33 #[.int .i64 1, .int .i64 n, .int .u32 0, .int .u32 cg]
  have k0 := hX.cell 0
  have k1 := hX.cell 1
  have HX := Lib.hid hX
  have hE := R1.trans E1
  have HRW := Lib.hid (hrow.extx E1)
  clear hrow hX
  go_wp2_with fail
  refine (HZ.out _).mono ?_
  rintro e w4 ⟨rfl, R4⟩
  clear k0 k1
  go_wp2_with fail
  refine (HA.out _ _ _ (HRW.out.extx R4)).mono ?_
  rintro e w5 ⟨rfl, R5⟩
  have R45 := R4.trans R5
  go_upto_region 9 with fail
  refine Z06 (R := Ext) (w0 := w5) [[], [0], [0, 1], [0, 1, 2], [0, 1, 2, 3], [0, 1, 2], [0, 1, 2, 5], [0, 1, 2, 3, 4, 5, 6], [0, 1, 2, 3, 4, 5, 6, 7]] [44, 45, 46, 47, 48, 49, 50, 51, 52] Ext.refl (fun _ _ _ => Ext.trans) (Ext.drew _) (by kernel_rfl) ?_
  apply Build.det 44 Ext.refl (by rfl) (by rfl) rfl
  case h =>
    intro ax wx hE hR hF
    have e8 : ax.eval (.tmp 8) = .int .i64 0 := hE.eval 8 (by rfl) rfl
    simp [go_sem, ↓IntWalk.iteOmega, ev e8, dg]
    with_reducible rfl
  apply Build.det 45 Ext.refl (by rfl) (by rfl) rfl
  case h =>
    intro ax wx hE hR hF
    have e44 := hF 0 (det 44 _) (by decide) (.head _)
    simp [go_sem, ↓IntWalk.iteOmega, ev e44, dg]
    with_reducible rfl
  apply Build.det 46 Ext.refl (by rfl) (by rfl) rfl
  case h =>
    intro ax wx hE hR hF
    have e45 := hF 1 (det 45 _) (by decide) (.head _)
    simp [go_sem, ↓IntWalk.iteOmega, ev e45, dg]
    with_reducible rfl
  apply Build.detg 47 Ext.refl (by rfl) (by rfl) rfl rfl
  case h =>
    intro ax wx hE hR hF
    have e9 : ax.eval (.tmp 9) = .string T := hE.eval 9 (by rfl) rfl
    have e46 := hF 2 (det 46 _) (by decide) (.head _)
    refine ⟨e46, ?_⟩
    simp [go_sem, ↓IntWalk.iteOmega, ev e9, ev e46, dg]
    with_reducible rfl
  apply Build.callg 48 Ext.refl (by rfl) (by rfl) rfl rfl
  case h =>
    intro ax wx hE hR hF
    have e46 := hF 2 (det 46 _) (by decide) (.tail _ (.head _))
    have e47 := hF 3 (det 47 _) (by decide) (.head _)
    refine ⟨e46, ?_⟩
    simp [go_sem, ↓IntWalk.iteOmega, ev e46, ev e47, dg]
    with_reducible exact ⟨rfl, rfl⟩
  case hc => intro wx hR; with_reducible exact HG.out wx
  apply Build.detg 49 Ext.refl (by rfl) (by rfl) rfl rfl
  case h =>
    intro ax wx hE hR hF
    have e6 : ax.eval (.tmp 6) = .pointer (some ⟨w1.heap.size, 0, none⟩) := hE.eval 6 (by rfl) rfl
    have e46 := hF 2 (det 46 _) (by decide) (.tail _ (.tail _ (.head _)))
    refine ⟨e46, ?_⟩
    simp [go_sem, ↓IntWalk.iteOmega, ev e6, ev e46, dg]
    with_reducible rfl
  apply Build.detg 50 Ext.refl (by rfl) (by rfl) rfl rfl
  case h =>
    intro ax wx hE hR hF
    have e46 := hF 2 (det 46 _) (by decide) (.tail _ (.tail _ (.tail _ (.head _))))
    have e49 := hF 5 (det 49 _) (by decide) (.head _)
    have hX4 := HX.out.ext (R45.trans hR); have q3 := hX4.cell 3
    refine ⟨e46, ?_⟩
    simp [go_sem, ↓IntWalk.iteOmega, ev e46, ev e49, dg, q3]
    with_reducible rfl
  apply Build.detg 51 Ext.refl (by rfl) (by rfl) rfl rfl
  case h =>
    intro ax wx hE hR hF
    have e46 := hF 2 (det 46 _) (by decide) (mem4 (.head _))
    have e48 := hF 4 (det 48 _) (by decide) (.tail _ (.tail _ (.head _)))
    have e50 := hF 6 (det 50 _) (by decide) (.head _)
    refine ⟨e46, ?_⟩
    simp [go_sem, ↓IntWalk.iteOmega, ev e46, ev e48, ev e50, dg]
    with_reducible rfl
  apply Build.det 52 Ext.refl (by rfl) (by rfl) rfl
  case h =>
    intro ax wx hE hR hF
    have e46 := hF 2 (det 46 _) (by decide) (mem4 (.tail _ (.head _)))
    have e51 := hF 7 (det 51 _) (by decide) (.head _)
    simp [go_sem, ↓IntWalk.iteOmega, ev e46, ev e51, dg]
    with_reducible rfl
  apply Build.stop
  refine ⟨by kernel_rfl, .inl ⟨rfl, ?_⟩⟩
  intro ax w6 hE R6 hF
  have e44 := hF 0 (det 44 _) (mem4 (mem4 (.head _)))
  have e45 := hF 1 (det 45 _) (mem4 (.tail _ (.tail _ (.tail _ (.head _)))))
  have e46 := hF 2 (det 46 _) (mem4 (.tail _ (.tail _ (.head _))))
  have e47 := hF 3 (det 47 _) (mem4 (.tail _ (.head _)))
  have e48 := hF 4 (det 48 _) (mem4 (.head _))
  have e49 := hF 5 (det 49 _) (.tail _ (.tail _ (.tail _ (.head _))))
  have e50 := hF 6 (det 50 _) (.tail _ (.tail _ (.head _)))
  have e51 := hF 7 (det 51 _) (.tail _ (.head _))
  have e52 := hF 8 (det 52 _) (.head _)
  rw [AllEq.frame (D := [44, 45, 46, 47, 48, 49, 50, 51, 52]) (AllEq.cons e44 (AllEq.cons e45 (AllEq.cons e46 (AllEq.cons e47 (AllEq.cons e48 (AllEq.cons e49 (AllEq.cons e50 (AllEq.cons e51 (AllEq.cons e52 (AllEq.nil)))))))))) hE rfl]
  clear hF hE e44 e45 e46 e47 e48 e49 e50 e51 e52
  simp only [List.foldl_cons, List.foldl_nil, Act.put, List.setIfInBounds_toArray, List.set_cons_succ, List.set_cons_zero]
  go_wp2_with fail
  go_ret2
  exact ⟨rfl, (hE.trans R45).trans R6⟩
end Go.Proofs.Ytbfgacmfjfbooaa

/- tiercelaw31: sec, awake. -/
namespace Go.Proofs.Ytbfgacmfjfbooaa
set_option linter.unusedVariables false
set_option linter.unusedSimpArgs false
open Go.RowKit

set_option maxRecDepth 10000 in
set_option maxHeartbeats 1000000 in
theorem Z85 (b : UInt8) (w : World) : Calls Try.prog 17 #[.int .u8 b.toNat] w fun e w' => e = .returned (.string ⟨(secL b).toArray⟩) ∧ Below w.heap.size w w' := by
  go_enter Try.func17, Try.ntmps17
  have hmk : ∀ w, (Instr.makeSlice 69 (.int .i64 16) (.int .i64 16)).run Try.prog w = .ok (.slice (some ⟨w.heap.size, 0, none⟩) 16 16) (w.alloc (.cells (rowOf (List.replicate 16 0) 16) 5)) := fun _ => by kernel_rfl
  generalize hL0 : List.replicate 16 (0 : UInt8) = L0 at hmk
  have HL0 := Lib.hid hL0
  clear hL0
  go_wp2_with fail
  go_loopw [4] (fun i wr => ∃ j : Nat, j ≤ 16 ∧ i = .int .i64 j ∧ Bytes wr w.heap.size (List.replicate j b ++ List.replicate (16 - j) 0) 16 ∧ Below w.heap.size w wr) (fun i _ => 16 - (intOf i).toNat)
  case atStart => exact ⟨0, by omega, rfl, by rw [← HL0.out]; exact Bytes.made, by (repeat (first | with_reducible exact Below.refl _ _ | with_reducible assumption | with_reducible apply Below.drew | with_reducible apply Z0b | (with_reducible refine Z0k ?_ ?_; focus ((try simp); (try omega); done)) | (with_reducible refine Z0l ?_ ?_; focus ((try simp); (try omega); done))))⟩
  case round =>
    obtain ⟨j, hj, rfl, hB, hb⟩ := hrel
    clear hmk
    by_cases hlt : j < 16
    · have hcell := hB.cell (i := j) (by simp; omega)
      have hfz := hB.frozen (i := j) (by omega)
      have hset := hB.set_ (i := j) (by simp; omega) b
      have hL : (List.replicate j b ++ List.replicate (16 - j) 0).set j b = List.replicate (j + 1) b ++ List.replicate (16 - (j + 1)) 0 := by
        rw [List.set_append_right _ _ (by simp), List.length_replicate, Nat.sub_self, show 16 - j = (16 - (j + 1)) + 1 by omega, List.replicate_succ, List.set_cons_zero, List.replicate_succ', List.append_assoc]
        rfl
      rw [hL] at hset
      have Hset := Lib.hid hset
      generalize (List.replicate j b ++ List.replicate (16 - j) 0).getD j 0 = x at hcell
      clear hL hset hB
      go_wp2_with fail
      go_roundw
      case rel => exact ⟨j + 1, by omega, by go_num, Hset.out, by (repeat (first | with_reducible exact Below.refl _ _ | with_reducible assumption | with_reducible apply Below.drew | with_reducible apply Z0b | (with_reducible refine Z0k ?_ ?_; focus ((try simp); (try omega); done)) | (with_reducible refine Z0l ?_ ?_; focus ((try simp); (try omega); done))))⟩
      case measure => simp [intOf]; omega
    · obtain rfl : j = 16 := by omega
      have hcv := hB.conv 16 16 (by simp)
      have hsec : (List.replicate 16 b ++ List.replicate (16 - 16) 0) = secL b := by simp [secL]
      rw [hsec] at hcv
      clear hB hsec
      generalize hT : secL b = T at hcv
      have HT := Lib.hid hT
      clear hT
      go_wp2_with fail
      go_ret
      exact ⟨by rw [HT.out]; rfl, hb⟩
theorem Z2e (b : UInt8) (q : ByteArray) (hq : secT b = q) (x : Int) (hx : x = (b.toNat : Int)) (w : World) : Calls Try.prog 17 #[.int .u8 x] w fun e w' => e = .returned (.string q) ∧ Ext w w' := by
  subst hx hq
  exact Z85 b w
theorem chgL_len (f g : Nat → UInt8) (n : Nat) : (chgL f g n).length = 22 + 8 * (exts f g n).length + 16 * diffN f g n := by
  unfold chgL strL
  rw [Z2r, List.length_append, Z1w, Z2j]
  omega
def tgA (i : Nat) : UInt8 := [1, 2].getD i 0
def tgB (i : Nat) : UInt8 := [1, 3].getD i 0
theorem exts_AB : (exts tgA tgB 2).length = 1 := by
  have h0 : secB (txt tgB 2) 0 = secB (txt tgA 2) 0 := (Z1p tgA tgB 2 0 (by decide)).2 rfl
  have h1 : ¬ secB (txt tgB 2) 1 = secB (txt tgA 2) 1 := fun h => absurd ((Z1p tgA tgB 2 1 (by decide)).1 h) (by decide)
  unfold exts
  rw [ofTo, if_neg h1, ofTo, if_pos h0, ofTo, Z4l]
  rfl
theorem crc_AB : crcX tgB 2 ≠ crcX tgA 2 := by decide +kernel
set_option maxRecDepth 100000 in
set_option maxHeartbeats 4000000 in
theorem awake31 (w : World) : Calls Try.prog 5 #[] w fun e w' => e = .returned (.bool true) ∧ Ext w w' := by
  obtain ⟨q1, hq1⟩ : ∃ q, secT 1 = q := ⟨_, rfl⟩
  obtain ⟨q2, hq2⟩ : ∃ q, secT 2 = q := ⟨_, rfl⟩
  obtain ⟨q3, hq3⟩ : ∃ q, secT 3 = q := ⟨_, rfl⟩
  have H1 := Lib.hid (Z2e 1 q1 hq1 1 rfl)
  have H2 := Lib.hid (Z2e 2 q2 hq2 2 rfl)
  have H3 := Lib.hid (Z2e 3 q3 hq3 3 rfl)
  have s1 : q1.size = 16 := by rw [← hq1]; exact Z3b _
  have s2 : q2.size = 16 := by rw [← hq2]; exact Z3b _
  have s3 : q3.size = 16 := by rw [← hq3]; exact Z3b _
  obtain ⟨S, hS⟩ : ∃ q, q1 ++ q2 = q := ⟨_, rfl⟩
  obtain ⟨T, hT⟩ : ∃ q, q1 ++ q3 = q := ⟨_, rfl⟩
  have eS : txt tgA 2 = S := by
    rw [← hS, ← hq1, ← hq2, ← Z2w tgA 1 2 rfl, ← Z2w tgA 0 1 rfl, Z6k]
    rfl
  have eT : txt tgB 2 = T := by
    rw [← hT, ← hq1, ← hq3, ← Z2w tgB 1 3 rfl, ← Z2w tgB 0 1 rfl, Z6k]
    rfl
  obtain ⟨s, hs⟩ : ∃ q : ByteArray, (⟨(chgL tgA tgB 2).toArray⟩ : ByteArray) = q := ⟨_, rfl⟩
  obtain ⟨t, ht⟩ : ∃ q : ByteArray, (⟨(allL tgA 2).toArray⟩ : ByteArray) = q := ⟨_, rfl⟩
  have hsd : s.data.toList = chgL tgA tgB 2 := by rw [← hs]
  have htd : t.data.toList = allL tgA 2 := by rw [← ht]
  have hss : s.size = 46 := by
    rw [← hs]
    show (chgL tgA tgB 2).toArray.size = 46
    rw [List.size_toArray, chgL_len, exts_AB]
    rfl
  have HA := Lib.hid (send_chg tgA tgB 2 (by decide) S T eS eT s hs)
  have HB := Lib.hid (send_all tgA 2 (by decide) ⟨#[]⟩ S eS t ht)
  have HL := Lib.hid (look_chg tgA tgB 2 (by decide) s hsd)
  have HT1 := Lib.hid (Z4u tgA tgB tgA 2 (by decide) S s T eS eT hsd rfl (by rw [Z7y]; intro i _; split <;> simp_all))
  have HT2 := Lib.hid (take_all tgA 2 (by decide) ⟨#[]⟩ t S eS htd)
  have HT3 := Lib.hid (Z5r tgA tgB tgB 2 (by decide) T s eT hsd crc_AB)
  obtain ⟨ca, hca⟩ : ∃ c, crcX tgA 2 = c := ⟨_, rfl⟩
  obtain ⟨cb, hcb⟩ : ∃ c, crcX tgB 2 = c := ⟨_, rfl⟩
  rw [hca, hcb] at HL
  have hSS : (S.toList == S.toList) = true := by simp
  have hTT : (T.toList == T.toList) = true := by simp
  clear hq1 hq2 hq3 eS eT hs ht hsd htd hca hcb
  go_enter Try.func5, Try.ntmps5
  go_wp2_with fail
  refine (H1.out _).mono ?_
  rintro e w1 ⟨rfl, R1⟩
  go_wp2_with fail
  refine (H2.out _).mono ?_
  rintro e w2 ⟨rfl, R2⟩
  go_wp2_with fail
  refine (H1.out _).mono ?_
  rintro e w3 ⟨rfl, R3⟩
  go_wp2_with fail
  refine (H3.out _).mono ?_
  rintro e w4 ⟨rfl, R4⟩
  go_wp2_with fail
  refine (HA.out _).mono ?_
  rintro e w5 ⟨rfl, R5⟩
  go_wp2_with fail
  refine (HB.out _).mono ?_
  rintro e w6 ⟨rfl, R6⟩
  go_wp2_with fail
  refine (HL.out _).mono ?_
  rintro e w7 ⟨rfl, R7⟩
  have hE7 := (((((R1.trans R2).trans R3).trans R4).trans R5).trans R6).trans R7
  have E7 := Ext.alloc w7 (.cells #[.int .i64 2, .int .i64 2, .int .u32 ca, .int .u32 cb] 33)
  have hX := Blk.new w7 33 #[.int .i64 2, .int .i64 2, .int .u32 ca, .int .u32 cb]
  have hE8 := hE7.trans E7
  have HX := Lib.hid hX
  clear R1 R2 R3 R4 R5 R6 R7 hX E7 hE7
  go_wp2_with fail
  refine (HT1.out _).mono ?_
  rintro e w8 ⟨rfl, R8⟩
  go_wp2_with fail
  refine (HT2.out _).mono ?_
  rintro e w9 ⟨rfl, R9⟩
  go_wp2_with fail
  refine (HT3.out _).mono ?_
  rintro e w10 ⟨rfl, R10⟩
  have hX10 := ((HX.out.ext R8).ext R9).ext R10
  have k0 := hX10.cell 0
  have k1 := hX10.cell 1
  have hE10 := ((hE8.trans R8).trans R9).trans R10
  clear R8 R9 R10 hX10 hE8
  go_wp2_with fail
  go_ret
  exact ⟨rfl, hE10⟩

theorem OwnT.graft {H : Nat} {A0 : World} {L1 L2 : List Thing} {w w' : World} (h : OwnT H A0 L1 w) (k : OwnT w.heap.size w L2 w') : OwnT H A0 (L2 ++ L1) w' := by
  have h1 := h.ext k.below
  refine ⟨h1.below, h1.size, Ths.of fun x hx => ?_, fun x hx i hi => ?_, List.pairwise_append.2 ⟨k.diff, h.diff, fun x hx y hy i hi hj => ?_⟩⟩
  · rcases List.mem_append.1 hx with hx | hx
    · exact k.all.mem hx
    · exact h1.all.mem hx
  · rcases List.mem_append.1 hx with hx | hx
    · have := k.high x hx i hi
      have := h.size
      omega
    · exact h.high x hx i hi
  · have := k.high x hx i hi
    have := h.lt hy hj
    omega

section
variable {w : World} {o : Oper} {ρ : Operand → Value} {t u : TypeId} {x y : Operand}
theorem Z2p {k n was is : Nat} (ho : o.op = .binOp .neq 33 x y u) (hx : ρ x = streamV k n was is) (hy : ρ y = streamV k n was is) : (execOp ρ o).run Try.prog w = .ok (.value (.bool false)) w := by
  unfold execOp
  simp only [ho, hx, hy]
  simp [go_sem]
theorem Z6g {k n was is : Nat} (ho : o.op = .binOp .eql 33 x y u) (hx : ρ x = streamV k n was is) (hy : ρ y = streamV k n was is) : (execOp ρ o).run Try.prog w = .ok (.value (.bool true)) w := by
  unfold execOp
  simp only [ho, hx, hy]
  simp [go_sem]
end
theorem awake31E (w : World) : Calls Try.prog 5 #[] w fun e w' => e = .returned (.bool true) ∧ Ext w w' := awake31 w
set_option maxRecDepth 10000 in
theorem Z3m (a b s : List UInt8) (full : Bool) (w0 : World) (hma : a.length ≤ maxLen) (hmb : b.length ≤ maxLen) (hms : s.length ≤ maxLen) :
    Calls Try.prog 3 #[.string (sB a), .string (sB b), .bool full, .string (sB s)] w0 fun e w' => e = .returned (.bool true) ∧ Below w0.heap.size w0 w' := by
  unfold maxLen at hma hmb hms
  refine fnG (OwnT.start w0) 142 Try.func3 rfl rfl rfl fun ac h => ?_
  refine gX h [] rfl fun ac w h => ?_
  refine gE h rfl (awake31E w) fun ac w E h => ?_
  by_cases ha : 1024 < a.length
  · refine gX h [vi a.length, .t] rfl fun ac w h => ?_
    exact gR h rfl ⟨rfl, h.O.below⟩
  by_cases hb : 1024 < b.length
  · refine gX h [vi a.length, .f, vi b.length, .t] rfl fun ac w h => ?_
    exact gR h rfl ⟨rfl, h.O.below⟩
  by_cases hs : 2048 < s.length
  · refine gX h [vi a.length, .f, vi b.length, .f, vi s.length, .t] rfl fun ac w h => ?_
    exact gR h rfl ⟨rfl, h.O.below⟩
  refine gX h [vi a.length, .f, vi b.length, .f, vi s.length, .f] rfl fun ac w h => ?_
  by_cases h16 : b.length % 16 = 0
  rotate_left
  · obtain ⟨r, hr⟩ : ∃ r, b.length % 16 = r := ⟨_, rfl⟩
    refine gE h rfl (Z56 (sB a) (sB b) full w (by rw [Z00]; omega) (by rw [Z00]; omega) (.inl (by rw [Z00]; omega))) fun ac w E h => ?_
    refine gX h [vi b.length, vi r, .t, .f, .f] rfl fun ac w h => ?_
    refine gX h [] rfl fun ac w h => ?_
    refine gE h rfl (plookE s w (by omega)) fun ac w E h => ?_
    cases hp : prdS s with
    | none =>
      rw [hp] at h
      refine gX h [] rfl fun ac w h => ?_
      refine gW h rfl fun g11 ac w E h => ?_
      refine gX h [0] rfl fun ac w h => ?_
      refine gE h rfl (ptakeE a s w (by omega) (by omega)) fun ac w E h => ?_
      rw [hp] at h
      refine gX h [] rfl fun ac w h => ?_
      refine gC h rfl (rread31S s w (by omega)) ?_
      intro e w' hP
      rw [← Z0d, hp] at hP
      obtain ⟨rfl, O2⟩ := hP
      refine ⟨_, rfl, _, h.O.graft O2, trivial, fun ac h => ?_⟩
      refine gX h [] rfl fun ac w h => ?_
      refine gW h rfl fun g15 ac w E h => ?_
      refine gX h [0, 1] rfl fun ac w h => ?_
      refine spG h [] rfl rfl rfl (Z6g (k := 0) (n := 0) (was := 0) (is := 0) rfl (h.M.opv _ _ rfl) (h.M.opv _ _ rfl)) h.O trivial fun ac h => ?_
      refine gX h [.t, .t, .t] rfl fun ac w h => ?_
      exact gR h rfl ⟨rfl, h.O.below⟩
    | some z =>
      obtain ⟨k, n, was, is, L⟩ := z
      rw [hp] at h
      obtain ⟨hg, hk⟩ := Z25 ((Z0d s).symm.trans hp)
      have hG : GoodS k n was is L := by simpa [goodS] using hg
      have hle := Z1z hG.2.2.1 hG.2.2.2.1
      have hn := hG.2.1
      refine gX h [] rfl fun ac w h => ?_
      refine gW h rfl fun g11 ac w E h => ?_
      refine gX h [0] rfl fun ac w h => ?_
      refine gE h rfl (ptakeE a s w (by omega) (by omega)) fun ac w E h => ?_
      rw [hp] at h
      unfold tkV at h
      simp only at h
      obtain ⟨tv, htv⟩ : ∃ q, takeS k n was is L a = q := ⟨_, rfl⟩
      rw [htv] at h
      obtain ⟨ts, tb⟩ := tv
      cases tb with
      | false =>
        simp only [Bool.false_eq_true, if_false] at h
        refine gX h [] rfl fun ac w h => ?_
        refine gC h rfl (rread31S s w (by omega)) ?_
        intro e w' hP
        rw [← Z0d, hp] at hP
        obtain ⟨v, rfl, O2⟩ := hP
        obtain ⟨Bv, cv, rfl⟩ := Z05 O2.r0
        refine ⟨_, rfl, _, h.O.graft O2, trivial, fun ac h => ?_⟩
        refine gX h [] rfl fun ac w h => ?_
        refine gW h rfl fun g15 ac w E h => ?_
        refine gX h [0, .f, 2, 0, 0, 0, 0] rfl fun ac w h => ?_
        refine spG h [] rfl rfl rfl (Z2p (k := k) (n := n) (was := was) (is := is) rfl (h.M.opv _ _ rfl) (h.M.opv _ _ rfl)) h.O trivial fun ac h => ?_
        refine gX h [0] rfl fun ac w h => ?_
        refine gE h rfl (rtake31E k n was is L a w h.O.all.2.1 (by omega) hk hn (by omega) hG.2.2.1 hG.2.2.2.1) fun ac w E h => ?_
        rw [htv] at h
        simp only at h
        refine gX h [.t, .t] rfl fun ac w h => ?_
        exact gR h rfl ⟨rfl, h.O.below⟩
      | true =>
        simp only [if_true] at h
        refine gX h [] rfl fun ac w h => ?_
        refine gC h rfl (rread31S s w (by omega)) ?_
        intro e w' hP
        rw [← Z0d, hp] at hP
        obtain ⟨v, rfl, O2⟩ := hP
        obtain ⟨Bv, cv, rfl⟩ := Z05 O2.r0
        refine ⟨_, rfl, _, h.O.graft O2, trivial, fun ac h => ?_⟩
        refine gX h [] rfl fun ac w h => ?_
        refine gW h rfl fun g15 ac w E h => ?_
        refine gX h [0, .f, 2, 0, 0, 0, 0] rfl fun ac w h => ?_
        refine spG h [] rfl rfl rfl (Z2p (k := k) (n := n) (was := was) (is := is) rfl (h.M.opv _ _ rfl) (h.M.opv _ _ rfl)) h.O trivial fun ac h => ?_
        refine gX h [0] rfl fun ac w h => ?_
        refine gE h rfl (rtake31E k n was is L a w h.O.all.2.1 (by omega) hk hn (by omega) hG.2.2.1 hG.2.2.2.1) fun ac w E h => ?_
        rw [htv] at h
        simp only at h
        refine gX h [.f, .t, .t] rfl fun ac w h => ?_
        exact gR h rfl ⟨rfl, h.O.below⟩
  obtain ⟨N, hN⟩ : ∃ N, b.length = 16 * N := ⟨b.length / 16, by omega⟩
  cases full with
  | true =>
    obtain ⟨Q, hQ⟩ : ∃ Q, sealL (strL 1 N 0 (crcSum b) (ofTo (sB (zrs (16 * N))) (sB b) N)) = Q := ⟨_, rfl⟩
    have hsd : sdB (sB a) (sB b) N true = sB Q := congrArg sB hQ
    refine gE h rfl (psendE (sB a) (sB b) N true w (by simp) (by rw [Z00]; omega) (by omega)) fun ac w E h => ?_
    rw [hsd] at h
    refine gX h [vi (16 * N : Nat), vi (0 : Nat), .f, .f] rfl fun ac w h => ?_
    refine gC h rfl (rof31E (sB a) (sB b) N true w h.O (by simp) (by rw [Z00]; omega) (by omega)) ?_
    rintro e w ⟨v, rfl, O2⟩
    refine ⟨_, rfl, _, O2, trivial, fun ac h => ?_⟩
    refine gX h [] rfl fun ac w h => ?_
    have hby := Z4j (sB (zrs (16 * N))) (sB b) N (by rw [Z00]; omega)
    have hbd := (Z0t (sB (zrs (16 * N))) (sB b) N N (by rw [Z00]; omega) (Nat.le_refl _)).1
    have hll := Z13 (sB (zrs (16 * N))) (sB b) N
    refine gE h rfl (rbytes31E 1 N 0 (crcSum b) (ofTo (sB (zrs (16 * N))) (sB b) N) w h.O.all.1 (by omega) (by omega) (by omega) (by omega) (Z0q b) (fun x hx => by have := hbd x hx; omega) (by omega)) fun ac w E h => ?_
    rw [hQ] at h
    refine gX h [.f] rfl fun ac w h => ?_
    refine gX h [] rfl fun ac w h => ?_
    refine gE h rfl (plookE s w (by omega)) fun ac w E h => ?_
    cases hp : prdS s with
    | none =>
      rw [hp] at h
      refine gX h [] rfl fun ac w h => ?_
      refine gW h rfl fun g11 ac w E h => ?_
      refine gX h [0] rfl fun ac w h => ?_
      refine gE h rfl (ptakeE a s w (by omega) (by omega)) fun ac w E h => ?_
      rw [hp] at h
      refine gX h [] rfl fun ac w h => ?_
      refine gC h rfl (rread31S s w (by omega)) ?_
      intro e w' hP
      rw [← Z0d, hp] at hP
      obtain ⟨rfl, O2⟩ := hP
      refine ⟨_, rfl, _, h.O.graft O2, trivial, fun ac h => ?_⟩
      refine gX h [] rfl fun ac w h => ?_
      refine gW h rfl fun g15 ac w E h => ?_
      refine gX h [0, 1] rfl fun ac w h => ?_
      refine spG h [] rfl rfl rfl (Z6g (k := 0) (n := 0) (was := 0) (is := 0) rfl (h.M.opv _ _ rfl) (h.M.opv _ _ rfl)) h.O trivial fun ac h => ?_
      refine gX h [.t, .t, .t] rfl fun ac w h => ?_
      exact gR h rfl ⟨rfl, h.O.below⟩
    | some z =>
      obtain ⟨k, n, was, is, L⟩ := z
      rw [hp] at h
      obtain ⟨hg, hk⟩ := Z25 ((Z0d s).symm.trans hp)
      have hG : GoodS k n was is L := by simpa [goodS] using hg
      have hle := Z1z hG.2.2.1 hG.2.2.2.1
      have hn := hG.2.1
      refine gX h [] rfl fun ac w h => ?_
      refine gW h rfl fun g11 ac w E h => ?_
      refine gX h [0] rfl fun ac w h => ?_
      refine gE h rfl (ptakeE a s w (by omega) (by omega)) fun ac w E h => ?_
      rw [hp] at h
      unfold tkV at h
      simp only at h
      obtain ⟨tv, htv⟩ : ∃ q, takeS k n was is L a = q := ⟨_, rfl⟩
      rw [htv] at h
      obtain ⟨ts, tb⟩ := tv
      cases tb with
      | false =>
        simp only [Bool.false_eq_true, if_false] at h
        refine gX h [] rfl fun ac w h => ?_
        refine gC h rfl (rread31S s w (by omega)) ?_
        intro e w' hP
        rw [← Z0d, hp] at hP
        obtain ⟨v, rfl, O2⟩ := hP
        obtain ⟨Bv, cv, rfl⟩ := Z05 O2.r0
        refine ⟨_, rfl, _, h.O.graft O2, trivial, fun ac h => ?_⟩
        refine gX h [] rfl fun ac w h => ?_
        refine gW h rfl fun g15 ac w E h => ?_
        refine gX h [0, .f, 2, 0, 0, 0, 0] rfl fun ac w h => ?_
        refine spG h [] rfl rfl rfl (Z2p (k := k) (n := n) (was := was) (is := is) rfl (h.M.opv _ _ rfl) (h.M.opv _ _ rfl)) h.O trivial fun ac h => ?_
        refine gX h [0] rfl fun ac w h => ?_
        refine gE h rfl (rtake31E k n was is L a w h.O.all.2.1 (by omega) hk hn (by omega) hG.2.2.1 hG.2.2.2.1) fun ac w E h => ?_
        rw [htv] at h
        simp only at h
        refine gX h [.t, .t] rfl fun ac w h => ?_
        exact gR h rfl ⟨rfl, h.O.below⟩
      | true =>
        simp only [if_true] at h
        refine gX h [] rfl fun ac w h => ?_
        refine gC h rfl (rread31S s w (by omega)) ?_
        intro e w' hP
        rw [← Z0d, hp] at hP
        obtain ⟨v, rfl, O2⟩ := hP
        obtain ⟨Bv, cv, rfl⟩ := Z05 O2.r0
        refine ⟨_, rfl, _, h.O.graft O2, trivial, fun ac h => ?_⟩
        refine gX h [] rfl fun ac w h => ?_
        refine gW h rfl fun g15 ac w E h => ?_
        refine gX h [0, .f, 2, 0, 0, 0, 0] rfl fun ac w h => ?_
        refine spG h [] rfl rfl rfl (Z2p (k := k) (n := n) (was := was) (is := is) rfl (h.M.opv _ _ rfl) (h.M.opv _ _ rfl)) h.O trivial fun ac h => ?_
        refine gX h [0] rfl fun ac w h => ?_
        refine gE h rfl (rtake31E k n was is L a w h.O.all.2.1 (by omega) hk hn (by omega) hG.2.2.1 hG.2.2.2.1) fun ac w E h => ?_
        rw [htv] at h
        simp only at h
        refine gX h [.f, .t, .t] rfl fun ac w h => ?_
        exact gR h rfl ⟨rfl, h.O.below⟩
  | false =>
    by_cases hl : a.length = b.length
    rotate_left
    · refine gE h rfl (Z56 (sB a) (sB b) false w (by rw [Z00]; omega) (by rw [Z00]; omega) (.inr ⟨rfl, by rw [Z00, Z00]; omega⟩)) fun ac w E h => ?_
      refine gX h [vi b.length, vi (0 : Nat), .f, vi a.length, vi b.length, .t, .f, .f] rfl fun ac w h => ?_
      refine gX h [] rfl fun ac w h => ?_
      refine gE h rfl (plookE s w (by omega)) fun ac w E h => ?_
      cases hp : prdS s with
      | none =>
        rw [hp] at h
        refine gX h [] rfl fun ac w h => ?_
        refine gW h rfl fun g11 ac w E h => ?_
        refine gX h [0] rfl fun ac w h => ?_
        refine gE h rfl (ptakeE a s w (by omega) (by omega)) fun ac w E h => ?_
        rw [hp] at h
        refine gX h [] rfl fun ac w h => ?_
        refine gC h rfl (rread31S s w (by omega)) ?_
        intro e w' hP
        rw [← Z0d, hp] at hP
        obtain ⟨rfl, O2⟩ := hP
        refine ⟨_, rfl, _, h.O.graft O2, trivial, fun ac h => ?_⟩
        refine gX h [] rfl fun ac w h => ?_
        refine gW h rfl fun g15 ac w E h => ?_
        refine gX h [0, 1] rfl fun ac w h => ?_
        refine spG h [] rfl rfl rfl (Z6g (k := 0) (n := 0) (was := 0) (is := 0) rfl (h.M.opv _ _ rfl) (h.M.opv _ _ rfl)) h.O trivial fun ac h => ?_
        refine gX h [.t, .t, .t] rfl fun ac w h => ?_
        exact gR h rfl ⟨rfl, h.O.below⟩
      | some z =>
        obtain ⟨k, n, was, is, L⟩ := z
        rw [hp] at h
        obtain ⟨hg, hk⟩ := Z25 ((Z0d s).symm.trans hp)
        have hG : GoodS k n was is L := by simpa [goodS] using hg
        have hle := Z1z hG.2.2.1 hG.2.2.2.1
        have hn := hG.2.1
        refine gX h [] rfl fun ac w h => ?_
        refine gW h rfl fun g11 ac w E h => ?_
        refine gX h [0] rfl fun ac w h => ?_
        refine gE h rfl (ptakeE a s w (by omega) (by omega)) fun ac w E h => ?_
        rw [hp] at h
        unfold tkV at h
        simp only at h
        obtain ⟨tv, htv⟩ : ∃ q, takeS k n was is L a = q := ⟨_, rfl⟩
        rw [htv] at h
        obtain ⟨ts, tb⟩ := tv
        cases tb with
        | false =>
          simp only [Bool.false_eq_true, if_false] at h
          refine gX h [] rfl fun ac w h => ?_
          refine gC h rfl (rread31S s w (by omega)) ?_
          intro e w' hP
          rw [← Z0d, hp] at hP
          obtain ⟨v, rfl, O2⟩ := hP
          obtain ⟨Bv, cv, rfl⟩ := Z05 O2.r0
          refine ⟨_, rfl, _, h.O.graft O2, trivial, fun ac h => ?_⟩
          refine gX h [] rfl fun ac w h => ?_
          refine gW h rfl fun g15 ac w E h => ?_
          refine gX h [0, .f, 2, 0, 0, 0, 0] rfl fun ac w h => ?_
          refine spG h [] rfl rfl rfl (Z2p (k := k) (n := n) (was := was) (is := is) rfl (h.M.opv _ _ rfl) (h.M.opv _ _ rfl)) h.O trivial fun ac h => ?_
          refine gX h [0] rfl fun ac w h => ?_
          refine gE h rfl (rtake31E k n was is L a w h.O.all.2.1 (by omega) hk hn (by omega) hG.2.2.1 hG.2.2.2.1) fun ac w E h => ?_
          rw [htv] at h
          simp only at h
          refine gX h [.t, .t] rfl fun ac w h => ?_
          exact gR h rfl ⟨rfl, h.O.below⟩
        | true =>
          simp only [if_true] at h
          refine gX h [] rfl fun ac w h => ?_
          refine gC h rfl (rread31S s w (by omega)) ?_
          intro e w' hP
          rw [← Z0d, hp] at hP
          obtain ⟨v, rfl, O2⟩ := hP
          obtain ⟨Bv, cv, rfl⟩ := Z05 O2.r0
          refine ⟨_, rfl, _, h.O.graft O2, trivial, fun ac h => ?_⟩
          refine gX h [] rfl fun ac w h => ?_
          refine gW h rfl fun g15 ac w E h => ?_
          refine gX h [0, .f, 2, 0, 0, 0, 0] rfl fun ac w h => ?_
          refine spG h [] rfl rfl rfl (Z2p (k := k) (n := n) (was := was) (is := is) rfl (h.M.opv _ _ rfl) (h.M.opv _ _ rfl)) h.O trivial fun ac h => ?_
          refine gX h [0] rfl fun ac w h => ?_
          refine gE h rfl (rtake31E k n was is L a w h.O.all.2.1 (by omega) hk hn (by omega) hG.2.2.1 hG.2.2.2.1) fun ac w E h => ?_
          rw [htv] at h
          simp only at h
          refine gX h [.f, .t, .t] rfl fun ac w h => ?_
          exact gR h rfl ⟨rfl, h.O.below⟩
    obtain ⟨Q, hQ⟩ : ∃ Q, sealL (strL 2 N (crcSum a) (crcSum b) (ofTo (sB a) (sB b) N)) = Q := ⟨_, rfl⟩
    have hsd : sdB (sB a) (sB b) N false = sB Q := congrArg sB hQ
    refine gE h rfl (psendE (sB a) (sB b) N false w (fun _ => by rw [Z00]; omega) (by rw [Z00]; omega) (by omega)) fun ac w E h => ?_
    rw [hsd] at h
    refine gX h [vi (16 * N : Nat), vi (0 : Nat), .f, vi (16 * N : Nat), vi (16 * N : Nat), .f, .f] rfl fun ac w h => ?_
    refine gC h rfl (rof31E (sB a) (sB b) N false w h.O (fun _ => by rw [Z00]; omega) (by rw [Z00]; omega) (by omega)) ?_
    rintro e w ⟨v, rfl, O2⟩
    refine ⟨_, rfl, _, O2, trivial, fun ac h => ?_⟩
    refine gX h [] rfl fun ac w h => ?_
    have hby := Z4j (sB a) (sB b) N (by rw [Z00]; omega)
    have hbd := (Z0t (sB a) (sB b) N N (by rw [Z00]; omega) (Nat.le_refl _)).1
    have hll := Z13 (sB a) (sB b) N
    refine gE h rfl (rbytes31E 2 N (crcSum a) (crcSum b) (ofTo (sB a) (sB b) N) w h.O.all.1 (by omega) (by omega) (by omega) (Z0q a) (Z0q b) (fun x hx => by have := hbd x hx; omega) (by omega)) fun ac w E h => ?_
    rw [hQ] at h
    refine gX h [.f] rfl fun ac w h => ?_
    refine gX h [] rfl fun ac w h => ?_
    refine gE h rfl (plookE s w (by omega)) fun ac w E h => ?_
    cases hp : prdS s with
    | none =>
      rw [hp] at h
      refine gX h [] rfl fun ac w h => ?_
      refine gW h rfl fun g11 ac w E h => ?_
      refine gX h [0] rfl fun ac w h => ?_
      refine gE h rfl (ptakeE a s w (by omega) (by omega)) fun ac w E h => ?_
      rw [hp] at h
      refine gX h [] rfl fun ac w h => ?_
      refine gC h rfl (rread31S s w (by omega)) ?_
      intro e w' hP
      rw [← Z0d, hp] at hP
      obtain ⟨rfl, O2⟩ := hP
      refine ⟨_, rfl, _, h.O.graft O2, trivial, fun ac h => ?_⟩
      refine gX h [] rfl fun ac w h => ?_
      refine gW h rfl fun g15 ac w E h => ?_
      refine gX h [0, 1] rfl fun ac w h => ?_
      refine spG h [] rfl rfl rfl (Z6g (k := 0) (n := 0) (was := 0) (is := 0) rfl (h.M.opv _ _ rfl) (h.M.opv _ _ rfl)) h.O trivial fun ac h => ?_
      refine gX h [.t, .t, .t] rfl fun ac w h => ?_
      exact gR h rfl ⟨rfl, h.O.below⟩
    | some z =>
      obtain ⟨k, n, was, is, L⟩ := z
      rw [hp] at h
      obtain ⟨hg, hk⟩ := Z25 ((Z0d s).symm.trans hp)
      have hG : GoodS k n was is L := by simpa [goodS] using hg
      have hle := Z1z hG.2.2.1 hG.2.2.2.1
      have hn := hG.2.1
      refine gX h [] rfl fun ac w h => ?_
      refine gW h rfl fun g11 ac w E h => ?_
      refine gX h [0] rfl fun ac w h => ?_
      refine gE h rfl (ptakeE a s w (by omega) (by omega)) fun ac w E h => ?_
      rw [hp] at h
      unfold tkV at h
      simp only at h
      obtain ⟨tv, htv⟩ : ∃ q, takeS k n was is L a = q := ⟨_, rfl⟩
      rw [htv] at h
      obtain ⟨ts, tb⟩ := tv
      cases tb with
      | false =>
        simp only [Bool.false_eq_true, if_false] at h
        refine gX h [] rfl fun ac w h => ?_
        refine gC h rfl (rread31S s w (by omega)) ?_
        intro e w' hP
        rw [← Z0d, hp] at hP
        obtain ⟨v, rfl, O2⟩ := hP
        obtain ⟨Bv, cv, rfl⟩ := Z05 O2.r0
        refine ⟨_, rfl, _, h.O.graft O2, trivial, fun ac h => ?_⟩
        refine gX h [] rfl fun ac w h => ?_
        refine gW h rfl fun g15 ac w E h => ?_
        refine gX h [0, .f, 2, 0, 0, 0, 0] rfl fun ac w h => ?_
        refine spG h [] rfl rfl rfl (Z2p (k := k) (n := n) (was := was) (is := is) rfl (h.M.opv _ _ rfl) (h.M.opv _ _ rfl)) h.O trivial fun ac h => ?_
        refine gX h [0] rfl fun ac w h => ?_
        refine gE h rfl (rtake31E k n was is L a w h.O.all.2.1 (by omega) hk hn (by omega) hG.2.2.1 hG.2.2.2.1) fun ac w E h => ?_
        rw [htv] at h
        simp only at h
        refine gX h [.t, .t] rfl fun ac w h => ?_
        exact gR h rfl ⟨rfl, h.O.below⟩
      | true =>
        simp only [if_true] at h
        refine gX h [] rfl fun ac w h => ?_
        refine gC h rfl (rread31S s w (by omega)) ?_
        intro e w' hP
        rw [← Z0d, hp] at hP
        obtain ⟨v, rfl, O2⟩ := hP
        obtain ⟨Bv, cv, rfl⟩ := Z05 O2.r0
        refine ⟨_, rfl, _, h.O.graft O2, trivial, fun ac h => ?_⟩
        refine gX h [] rfl fun ac w h => ?_
        refine gW h rfl fun g15 ac w E h => ?_
        refine gX h [0, .f, 2, 0, 0, 0, 0] rfl fun ac w h => ?_
        refine spG h [] rfl rfl rfl (Z2p (k := k) (n := n) (was := was) (is := is) rfl (h.M.opv _ _ rfl) (h.M.opv _ _ rfl)) h.O trivial fun ac h => ?_
        refine gX h [0] rfl fun ac w h => ?_
        refine gE h rfl (rtake31E k n was is L a w h.O.all.2.1 (by omega) hk hn (by omega) hG.2.2.1 hG.2.2.2.1) fun ac w E h => ?_
        rw [htv] at h
        simp only at h
        refine gX h [.f, .t, .t] rfl fun ac w h => ?_
        exact gR h rfl ⟨rfl, h.O.below⟩
theorem shipExact_walk (w : World) (v0 v1 v2 v3 : Value) (h0 : Arg Try.prog w 9 v0) (h1 : Arg Try.prog w 9 v1) (h2 : Arg Try.prog w 4 v2) (h3 : Arg Try.prog w 9 v3) :
    Calls Try.prog 3 #[v0, v1, v2, v3] w fun e w' => e = .returned (.bool true) ∧ Below w.heap.size w w' := by
  obtain ⟨a, rfl, ha⟩ := Z2m Try.underlying9 h0
  obtain ⟨b, rfl, hb⟩ := Z2m Try.underlying9 h1
  obtain ⟨f, rfl⟩ := arg_bool Try.underlying4 h2
  obtain ⟨s, rfl, hs⟩ := Z2m Try.underlying9 h3
  exact Z3m a.data.toList b.data.toList s.data.toList f w (by simpa using ha) (by simpa using hb) (by simpa using hs)
section
open Go.ChangeShapes Go.WideShapes Go.ChangeAt
theorem Arg.mk_ {P : Program} {w : World} {t : TypeId} {v : Value} {H : Type} {enc : TypeId × Value → H} {d : DataW H} {p : List MemPlace} {r : Reach} {base : Nat} (h : DataW.Trod enc P w 0 (fun _ => true) true t v d p) (hv : Value.okWide P w r base t v) : Arg P w t v := by
  obtain ⟨fuel, hf⟩ := h
  exact ⟨⟨H, enc, fuel, _, hf⟩, r, base, hv⟩
end
end Go.Proofs.Ytbfgacmfjfbooaa
