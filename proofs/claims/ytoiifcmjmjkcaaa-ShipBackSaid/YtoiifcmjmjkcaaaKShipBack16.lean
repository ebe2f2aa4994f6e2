/- ship: Look, Take. -/
import Derived.Test.YtoiifcmjmjkcaaaKShipBack15
namespace Go.Proofs.Ytoiifcmjmjkcaaa
set_option linter.unusedVariables false
set_option linter.unusedSimpArgs false
open Go.RowKit

theorem exts_ok (f g : Nat → UInt8) (n : Nat) (hn : n ≤ 4096) : (extsL (exts f g n)).length ≤ 800000 ∧ ∀ x ∈ exts f g n, x.1 < 4294967296 ∧ x.2.size % 16 = 0 ∧ 1 ≤ x.2.size / 16 ∧ x.2.size / 16 ≤ n := by
  have h1 := exts_len f g n
  have h2 := exts_bytes f g n
  have h3 := diffN_le f g n
  exact ⟨by omega, fun x hx => by have := exts_bd f g n x hx; omega⟩
theorem read_chg (f g : Nat → UInt8) (n : Nat) (hn : n ≤ 4096) (s : ByteArray) (hs : s.data.toList = chgL f g n) (w : World) :
    Calls Try.prog 36 #[.string s] w fun e w' => ∃ A cap, e = .returned (.tuple #[streamV 2 n (crcX f n) (crcX g n), .slice A (exts f g n).length cap, .int .i64 0]) ∧ Row w' A 2 xC (exts f g n) ∧ Ext w w' := by
  obtain ⟨h1, h2⟩ := exts_ok f g n hn
  exact read_any 2 n (crcX f n) (crcX g n) (exts f g n) _ rfl s hs (by decide) hn (crcX_lt f n) (crcX_lt g n) (exts_len f g n) h1 h2 (fun W A cap hrow => isgood_chg n _ _ f g hn W A cap hrow) w
theorem read_all (g : Nat → UInt8) (n : Nat) (hn : n ≤ 4096) (s : ByteArray) (hs : s.data.toList = allL g n) (w : World) :
    Calls Try.prog 36 #[.string s] w fun e w' => ∃ A cap, e = .returned (.tuple #[streamV 1 n 0 (crcX g n), .slice A (exts zf g n).length cap, .int .i64 0]) ∧ Row w' A 2 xC (exts zf g n) ∧ Ext w w' := by
  obtain ⟨h1, h2⟩ := exts_ok zf g n hn
  exact read_any 1 n 0 (crcX g n) (exts zf g n) _ rfl s hs (by decide) hn (by decide) (crcX_lt g n) (exts_len zf g n) h1 h2 (fun W A cap hrow => isgood_all n g hn W A cap hrow) w

theorem look_post {R : Ending → World → Prop} {ac : Act} {w : World} {X k n was is : Nat} {x : Int} (h2 : ac.tmps[2]?.getD undef = .pointer (some ⟨X, 0, none⟩)) (h3 : ac.tmps[3]?.getD undef = .int .i64 x) (hd : ac.defers = [])
    (hF : Blk w X 44 #[.int .i64 k, .int .i64 n, .int .u32 was, .int .u32 is]) (hR : R (.returned (.tuple #[streamV k n was is, .int .i64 x])) w) : bodyPost Try.prog Try.f18 R .ret ac w := by
  obtain ⟨tm, df⟩ := ac
  simp only at h2 h3 hd
  have p0 := hF.cell 0
  have p1 := hF.cell 1
  have p2 := hF.cell 2
  have p3 := hF.cell 3
  exact bodyPost_ret (v := .tuple #[streamV k n was is, .int .i64 x]) (by simp [results, Try.results18, go_sem, h2, h3, p0, p1, p2, p3]) hd hR
theorem look_any (s : ByteArray) (k n was is : Nat) (x : Int) (w : World) (h : ∀ W, Calls Try.prog 36 #[.string s] W fun e w' => ∃ A len cap, e = .returned (.tuple #[streamV k n was is, .slice A len cap, .int .i64 x]) ∧ Ext W w') :
    Calls Try.prog 18 #[.string s] w fun e w' => e = .returned (.tuple #[streamV k n was is, .int .i64 x]) ∧ Ext w w' := by
  have H := Lib.hid h
  have O0 := (Own.start w).new 44 #[.int .i64 0, .int .i64 0, .int .u32 0, .int .u32 0]
  clear h
  go_enter Try.func18, Try.ntmps18
  go_wp2_with fail
  refine (H.out _).mono ?_
  rintro e w1 ⟨A, len, cap, rfl, R1⟩
  have O1 := (O0.ext R1).new 44 #[.int .i64 k, .int .i64 n, .int .u32 was, .int .u32 is]
  have k0 := O1.all.1.cell 0
  have k1 := O1.all.1.cell 1
  have k2 := O1.all.1.cell 2
  have k3 := O1.all.1.cell 3
  have r0 := O1.all.2.1.cell 0
  have r1 := O1.all.2.1.cell 1
  have r2 := O1.all.2.1.cell 2
  have r3 := O1.all.2.1.cell 3
  have g0 := O1.all.2.1.frozen 0
  have g1 := O1.all.2.1.frozen 1
  have g2 := O1.all.2.1.frozen 2
  have g3 := O1.all.2.1.frozen 3
  clear O0 R1 H
  have HO := Lib.hid O1
  clear O1
  go_wp2_with fail
  have O2 := (((HO.out.set (L1 := [_]) rfl 0 (.int .i64 k)).set (L1 := [_]) rfl 1 (.int .i64 n)).set (L1 := [_]) rfl 2 (.int .u32 was)).set (L1 := [_]) rfl 3 (.int .u32 is)
  exact look_post (k := k) (n := n) (was := was) (is := is) (x := x) rfl rfl rfl O2.all.2.1 ⟨rfl, O2.below⟩
theorem look_chg (f g : Nat → UInt8) (n : Nat) (hn : n ≤ 4096) (s : ByteArray) (hs : s.data.toList = chgL f g n) (w : World) :
    Calls Try.prog 18 #[.string s] w fun e w' => e = .returned (.tuple #[streamV 2 n (crcX f n) (crcX g n), .int .i64 0]) ∧ Ext w w' :=
  look_any s 2 n _ _ 0 w (fun W => (read_chg f g n hn s hs W).mono (fun _ _ ⟨A, cap, he, _, hE⟩ => ⟨A, _, cap, he, hE⟩))
theorem look_shut (s : ByteArray) (h : ∀ W : World, Calls Try.prog 49 #[.string s] W fun e w' => e = .returned (.tuple #[.string ⟨#[]⟩, .bool false]) ∧ Ext W w') (w : World) :
    Calls Try.prog 18 #[.string s] w fun e w' => e = .returned (.tuple #[streamV 0 0 0 0, .int .i64 3]) ∧ Ext w w' :=
  look_any s 0 0 0 0 3 w (fun W => (read_shut s W h).mono (fun _ _ ⟨he, hE⟩ => ⟨none, 0, 0, he, hE⟩))
set_option maxRecDepth 100000 in
set_option maxHeartbeats 4000000 in
theorem take_chg_no (f g h : Nat → UInt8) (n : Nat) (hn : n ≤ 4096) (S s : ByteArray) (hS : txt h n = S) (hs : s.data.toList = chgL f g n) (hc : crcX h n ≠ crcX f n) (w : World) :
    Calls Try.prog 19 #[.string S, .string s] w fun e w' => e = .returned (.tuple #[.string ⟨#[]⟩, .int .i64 11]) ∧ Ext w w' := by
  have HRD := Lib.hid (read_chg f g n hn s hs)
  obtain ⟨ch, hch⟩ : ∃ c, crcX h n = c := ⟨_, rfl⟩
  have HS := Lib.hid (sum_txt h n hn S hS ch hch)
  rw [hch] at hc
  obtain ⟨cf, hcf⟩ : ∃ c, crcX f n = c := ⟨_, rfl⟩
  obtain ⟨cg, hcg⟩ : ∃ c, crcX g n = c := ⟨_, rfl⟩
  rw [hcf] at hc HRD
  rw [hcg] at HRD
  obtain ⟨len, hlen⟩ : ∃ l, (exts f g n).length = l := ⟨_, rfl⟩
  rw [hlen] at HRD
  have hSs : S.size = 16 * n := by rw [← hS]; exact txt_size h n
  have hwm : IntKind.i64.wrap ((n : Int) * 16) = (S.size : Int) := by rw [IntWalk.i64_in _ (by omega)]; omega
  have dn : ((S.size : Int) != (S.size : Int)) = false := by simp
  have dc : ((ch : Int) != (cf : Int)) = true := by rw [bne_iff_ne]; omega
  have dc2 : ((ch : Int) == (cf : Int)) = false := by rw [beq_eq_false_iff_ne]; omega
  clear hSs hch hcf hcg hlen hs hS hc
  go_enter Try.func19, Try.ntmps19
  go_wp2_with fail
  refine (HRD.out _).mono ?_
  rintro e w1 ⟨A, cap, rfl, hrow, R1⟩
  have E1 := Ext.alloc w1 (.cells #[.int .i64 2, .int .i64 n, .int .u32 cf, .int .u32 cg] 44)
  have hX := Blk.new w1 44 #[.int .i64 2, .int .i64 n, .int .u32 cf, .int .u32 cg]
  have k0 := hX.cell 0
  have HX := Lib.hid hX
  have hE := R1.trans E1
  clear hrow hX
  go_upto_region 6 with fail
  clear k0
  refine wp_typed (R := Ext) (w0 := (w1.alloc (.cells #[.int .i64 2, .int .i64 n, .int .u32 cf, .int .u32 cg] 44))) [[], [0], [], [2], [2, 3], [0, 1, 2, 3, 4], [0, 1, 2, 3, 4, 5], [0, 1, 2, 3, 4, 5, 6], [0, 1, 2, 3, 4, 5, 6, 7], [0, 1, 2, 3, 4, 5, 6], [0, 1, 2, 3, 4, 5, 6, 9], [0, 1, 2, 3, 4, 5, 6, 7, 8, 9, 10], [0, 1, 2, 3, 4, 5, 6, 7, 8, 9, 10, 11]] [25, 26, 27, 28, 29, 30, 31, 32, 33, 34, 35, 36, 37] Ext.refl (fun _ _ _ => Ext.trans) (Ext.drew _) (by kernel_rfl) ?_
  apply Build.det 25 Ext.refl (by rfl) (by rfl) rfl
  case h =>   -- 0: t25 := Op.move (tmp 0)
    intro ax wx hE hR hF
    have e0 : ax.eval (.tmp 0) = .string S := hE.eval 0 (by rfl) rfl
    simp [go_sem, BigFrame.eval_const, BigFrame.eval_global, BigFrame.eval_func, ↓IntWalk.iteOmega, ev e0, hwm, dn, dc, dc2]
    with_reducible rfl
  apply Build.det 26 Ext.refl (by rfl) (by rfl) rfl
  case h =>   -- 1: t26 := Op.call {callee := Callee.builtin Builtin.len, args := #[tmp 25], argT
    intro ax wx hE hR hF
    have e25 : ax.eval (.tmp 25) = _ := hF 0 (det 25 _) (by decide) (.head _)
    simp [go_sem, BigFrame.eval_const, BigFrame.eval_global, BigFrame.eval_func, ↓IntWalk.iteOmega, ev e25, hwm, dn, dc, dc2]
    with_reducible rfl
  apply Build.det 27 Ext.refl (by rfl) (by rfl) rfl
  case h =>   -- 2: t27 := Op.fieldAddr 44 (tmp 6) 1
    intro ax wx hE hR hF
    have e6 : ax.eval (.tmp 6) = .pointer (some ⟨w1.heap.size, 0, none⟩) := hE.eval 6 (by rfl) rfl
    simp [go_sem, BigFrame.eval_const, BigFrame.eval_global, BigFrame.eval_func, ↓IntWalk.iteOmega, ev e6, hwm, dn, dc, dc2]
    with_reducible rfl
  apply Build.det 28 Ext.refl (by rfl) (by rfl) rfl
  case h =>   -- 3: t28 := Op.load 3 (tmp 27)
    intro ax wx hE hR hF
    have e27 : ax.eval (.tmp 27) = _ := hF 2 (det 27 _) (by decide) (.head _)
    have hX4 := HX.out.ext hR; have q1 := hX4.cell 1; have q2 := hX4.cell 2
    simp [go_sem, BigFrame.eval_const, BigFrame.eval_global, BigFrame.eval_func, ↓IntWalk.iteOmega, ev e27, hwm, dn, dc, dc2, q1, q2]
    with_reducible rfl
  apply Build.det 29 Ext.refl (by rfl) (by rfl) rfl
  case h =>   -- 4: t29 := Op.binOp BinOp.mul 3 (tmp 28) (const (Value.int IntKind.i64 16)) 3
    intro ax wx hE hR hF
    have e28 : ax.eval (.tmp 28) = _ := hF 3 (det 28 _) (by decide) (.head _)
    simp [go_sem, BigFrame.eval_const, BigFrame.eval_global, BigFrame.eval_func, ↓IntWalk.iteOmega, ev e28, hwm, dn, dc, dc2]
    with_reducible rfl
  apply Build.det 30 Ext.refl (by rfl) (by rfl) rfl
  case h =>   -- 5: t30 := Op.binOp BinOp.neq 3 (tmp 26) (tmp 29) 3
    intro ax wx hE hR hF
    have e26 : ax.eval (.tmp 26) = _ := hF 1 (det 26 _) (by decide) (.tail _ (.tail _ (.tail _ (.head _))))
    have e29 : ax.eval (.tmp 29) = _ := hF 4 (det 29 _) (by decide) (.head _)
    simp [go_sem, BigFrame.eval_const, BigFrame.eval_global, BigFrame.eval_func, ↓IntWalk.iteOmega, ev e26, ev e29, hwm, dn, dc, dc2]
    with_reducible rfl
  apply Build.det 31 Ext.refl (by rfl) (by rfl) rfl
  case h =>   -- 6: t31 := Op.move (tmp 30)
    intro ax wx hE hR hF
    have e30 : ax.eval (.tmp 30) = _ := hF 5 (det 30 _) (by decide) (.head _)
    simp [go_sem, BigFrame.eval_const, BigFrame.eval_global, BigFrame.eval_func, ↓IntWalk.iteOmega, ev e30, hwm, dn, dc, dc2]
    with_reducible rfl
  apply Build.detg 32 Ext.refl (by rfl) (by rfl) rfl rfl
  case h =>   -- 7: t32 := Op.move (tmp 0)
    intro ax wx hE hR hF
    have e0 : ax.eval (.tmp 0) = .string S := hE.eval 0 (by rfl) rfl
    have e31 : ax.eval (.tmp 31) = _ := hF 6 (det 31 _) (by decide) (.head _)
    refine ⟨e31, ?_⟩
    simp [go_sem, BigFrame.eval_const, BigFrame.eval_global, BigFrame.eval_func, ↓IntWalk.iteOmega, ev e0, ev e31, hwm, dn, dc, dc2]
    with_reducible rfl
  apply Build.callg 33 Ext.refl (by rfl) (by rfl) rfl rfl
  case h =>
    intro ax wx hE hR hF
    have e31 : ax.eval (.tmp 31) = _ := hF 6 (det 31 _) (by decide) (.tail _ (.head _))
    have e32 : ax.eval (.tmp 32) = _ := hF 7 (det 32 _) (by decide) (.head _)
    refine ⟨e31, ?_⟩
    simp [go_sem, BigFrame.eval_const, BigFrame.eval_global, BigFrame.eval_func, ↓IntWalk.iteOmega, ev e31, ev e32, hwm, dn, dc, dc2]
    with_reducible exact ⟨rfl, rfl⟩
  case hc => intro wx hR; with_reducible exact HS.out wx
  apply Build.detg 34 Ext.refl (by rfl) (by rfl) rfl rfl
  case h =>   -- 9: t34 := Op.fieldAddr 44 (tmp 6) 2
    intro ax wx hE hR hF
    have e6 : ax.eval (.tmp 6) = .pointer (some ⟨w1.heap.size, 0, none⟩) := hE.eval 6 (by rfl) rfl
    have e31 : ax.eval (.tmp 31) = _ := hF 6 (det 31 _) (by decide) (.tail _ (.tail _ (.head _)))
    refine ⟨e31, ?_⟩
    simp [go_sem, BigFrame.eval_const, BigFrame.eval_global, BigFrame.eval_func, ↓IntWalk.iteOmega, ev e6, ev e31, hwm, dn, dc, dc2]
    with_reducible rfl
  apply Build.detg 35 Ext.refl (by rfl) (by rfl) rfl rfl
  case h =>   -- 10: t35 := Op.load 38 (tmp 34)
    intro ax wx hE hR hF
    have e31 : ax.eval (.tmp 31) = _ := hF 6 (det 31 _) (by decide) (.tail _ (.tail _ (.tail _ (.head _))))
    have e34 : ax.eval (.tmp 34) = _ := hF 9 (det 34 _) (by decide) (.head _)
    have hX4 := HX.out.ext hR; have q1 := hX4.cell 1; have q2 := hX4.cell 2
    refine ⟨e31, ?_⟩
    simp [go_sem, BigFrame.eval_const, BigFrame.eval_global, BigFrame.eval_func, ↓IntWalk.iteOmega, ev e31, ev e34, hwm, dn, dc, dc2, q1, q2]
    with_reducible rfl
  apply Build.detg 36 Ext.refl (by rfl) (by rfl) rfl rfl
  case h =>   -- 11: t36 := Op.binOp BinOp.neq 38 (tmp 33) (tmp 35) 38
    intro ax wx hE hR hF
    have e31 : ax.eval (.tmp 31) = _ := hF 6 (det 31 _) (by decide) (mem4 (.head _))
    have e33 : ax.eval (.tmp 33) = _ := hF 8 (det 33 _) (by decide) (.tail _ (.tail _ (.head _)))
    have e35 : ax.eval (.tmp 35) = _ := hF 10 (det 35 _) (by decide) (.head _)
    refine ⟨e31, ?_⟩
    simp [go_sem, BigFrame.eval_const, BigFrame.eval_global, BigFrame.eval_func, ↓IntWalk.iteOmega, ev e31, ev e33, ev e35, hwm, dn, dc, dc2]
    with_reducible rfl
  apply Build.det 37 Ext.refl (by rfl) (by rfl) rfl
  case h =>   -- 12: t37 := Op.pick (tmp 31) (const (Value.bool true)) (tmp 36)
    intro ax wx hE hR hF
    have e31 : ax.eval (.tmp 31) = _ := hF 6 (det 31 _) (by decide) (mem4 (.tail _ (.head _)))
    have e36 : ax.eval (.tmp 36) = _ := hF 11 (det 36 _) (by decide) (.head _)
    simp [go_sem, BigFrame.eval_const, BigFrame.eval_global, BigFrame.eval_func, ↓IntWalk.iteOmega, ev e31, ev e36, hwm, dn, dc, dc2]
    with_reducible rfl
  apply Build.stop
  refine ⟨by kernel_rfl, .inl ⟨rfl, ?_⟩⟩
  intro ax w4 hE R4 hF
  have e25 : ax.eval (.tmp 25) = _ := hF 0 (det 25 _) (mem4 (mem4 (mem4 (.head _))))
  have e26 : ax.eval (.tmp 26) = _ := hF 1 (det 26 _) (mem4 (mem4 (.tail _ (.tail _ (.tail _ (.head _))))))
  have e27 : ax.eval (.tmp 27) = _ := hF 2 (det 27 _) (mem4 (mem4 (.tail _ (.tail _ (.head _)))))
  have e28 : ax.eval (.tmp 28) = _ := hF 3 (det 28 _) (mem4 (mem4 (.tail _ (.head _))))
  have e29 : ax.eval (.tmp 29) = _ := hF 4 (det 29 _) (mem4 (mem4 (.head _)))
  have e30 : ax.eval (.tmp 30) = _ := hF 5 (det 30 _) (mem4 (.tail _ (.tail _ (.tail _ (.head _)))))
  have e31 : ax.eval (.tmp 31) = _ := hF 6 (det 31 _) (mem4 (.tail _ (.tail _ (.head _))))
  have e32 : ax.eval (.tmp 32) = _ := hF 7 (det 32 _) (mem4 (.tail _ (.head _)))
  have e33 : ax.eval (.tmp 33) = _ := hF 8 (det 33 _) (mem4 (.head _))
  have e34 : ax.eval (.tmp 34) = _ := hF 9 (det 34 _) (.tail _ (.tail _ (.tail _ (.head _))))
  have e35 : ax.eval (.tmp 35) = _ := hF 10 (det 35 _) (.tail _ (.tail _ (.head _)))
  have e36 : ax.eval (.tmp 36) = _ := hF 11 (det 36 _) (.tail _ (.head _))
  have e37 : ax.eval (.tmp 37) = _ := hF 12 (det 37 _) (.head _)
  rw [AllEq.frame (D := [25, 26, 27, 28, 29, 30, 31, 32, 33, 34, 35, 36, 37]) (AllEq.cons e25 (AllEq.cons e26 (AllEq.cons e27 (AllEq.cons e28 (AllEq.cons e29 (AllEq.cons e30 (AllEq.cons e31 (AllEq.cons e32 (AllEq.cons e33 (AllEq.cons e34 (AllEq.cons e35 (AllEq.cons e36 (AllEq.cons e37 (AllEq.nil)))))))))))))) hE rfl]
  clear hF hE e25 e26 e27 e28 e29 e30 e31 e32 e33 e34 e35 e36 e37
  simp only [List.foldl_cons, List.foldl_nil, Act.put, List.setIfInBounds_toArray, List.set_cons_succ, List.set_cons_zero]
  go_wp2_with fail
  go_ret2
  exact ⟨rfl, hE.trans R4⟩
set_option maxRecDepth 100000 in
set_option maxHeartbeats 4000000 in
theorem take_chg_yes (f g h : Nat → UInt8) (n : Nat) (hn : n ≤ 4096) (S s T : ByteArray) (hS : txt h n = S) (hT : txt g n = T) (hs : s.data.toList = chgL f g n) (hc : crcX h n = crcX f n) (hq : txt (fun i => if g i = f i then h i else g i) n = txt g n) (w : World) :
    Calls Try.prog 19 #[.string S, .string s] w fun e w' => e = .returned (.tuple #[.string T, .int .i64 0]) ∧ Ext w w' := by
  have HRD := Lib.hid (read_chg f g n hn s hs)
  obtain ⟨cf, hcf⟩ : ∃ c, crcX f n = c := ⟨_, rfl⟩
  obtain ⟨cg, hcg⟩ : ∃ c, crcX g n = c := ⟨_, rfl⟩
  have HS := Lib.hid (sum_txt h n hn S hS cf (hc.trans hcf))
  have HG := Lib.hid (sum_txt g n hn T hT cg hcg)
  obtain ⟨len, hlen⟩ : ∃ l, (exts f g n).length = l := ⟨_, rfl⟩
  have ap := fun W A cap => apply_call f g h n (by omega) T (hq.trans hT) A len cap W hlen
  rw [hS] at ap
  have HA := Lib.hid ap
  rw [hcf, hcg, hlen] at HRD
  have hSs : S.size = 16 * n := by rw [← hS]; exact txt_size h n
  have hwm : IntKind.i64.wrap ((n : Int) * 16) = (S.size : Int) := by rw [IntWalk.i64_in _ (by omega)]; omega
  have dn : ((S.size : Int) != (S.size : Int)) = false := by simp
  have dc : ((cf : Int) != (cf : Int)) = false := by simp
  have dg : ((cg : Int) != (cg : Int)) = false := by simp
  clear hSs hcf hcg hs hS hT hc hq ap
  go_enter Try.func19, Try.ntmps19
  go_wp2_with fail
  refine (HRD.out _).mono ?_
  rintro e w1 ⟨A, cap, rfl, hrow, R1⟩
  have E1 := Ext.alloc w1 (.cells #[.int .i64 2, .int .i64 n, .int .u32 cf, .int .u32 cg] 44)
  have hX := Blk.new w1 44 #[.int .i64 2, .int .i64 n, .int .u32 cf, .int .u32 cg]
  have k0 := hX.cell 0
  have HX := Lib.hid hX
  have hE := R1.trans E1
  have HRW := Lib.hid (hrow.extx E1)
  clear hrow hX
  go_upto_region 6 with fail
  clear k0
  refine wp_typed (R := Ext) (w0 := (w1.alloc (.cells #[.int .i64 2, .int .i64 n, .int .u32 cf, .int .u32 cg] 44))) [[], [0], [], [2], [2, 3], [0, 1, 2, 3, 4], [0, 1, 2, 3, 4, 5], [0, 1, 2, 3, 4, 5, 6], [0, 1, 2, 3, 4, 5, 6, 7], [0, 1, 2, 3, 4, 5, 6], [0, 1, 2, 3, 4, 5, 6, 9], [0, 1, 2, 3, 4, 5, 6, 7, 8, 9, 10], [0, 1, 2, 3, 4, 5, 6, 7, 8, 9, 10, 11]] [25, 26, 27, 28, 29, 30, 31, 32, 33, 34, 35, 36, 37] Ext.refl (fun _ _ _ => Ext.trans) (Ext.drew _) (by kernel_rfl) ?_
  apply Build.det 25 Ext.refl (by rfl) (by rfl) rfl
  case h =>   -- 0: t25 := Op.move (tmp 0)
    intro ax wx hE hR hF
    have e0 : ax.eval (.tmp 0) = .string S := hE.eval 0 (by rfl) rfl
    simp [go_sem, BigFrame.eval_const, BigFrame.eval_global, BigFrame.eval_func, ↓IntWalk.iteOmega, ev e0, hwm, dn, dc]
    with_reducible rfl
  apply Build.det 26 Ext.refl (by rfl) (by rfl) rfl
  case h =>   -- 1: t26 := Op.call {callee := Callee.builtin Builtin.len, args := #[tmp 25], argT
    intro ax wx hE hR hF
    have e25 : ax.eval (.tmp 25) = _ := hF 0 (det 25 _) (by decide) (.head _)
    simp [go_sem, BigFrame.eval_const, BigFrame.eval_global, BigFrame.eval_func, ↓IntWalk.iteOmega, ev e25, hwm, dn, dc]
    with_reducible rfl
  apply Build.det 27 Ext.refl (by rfl) (by rfl) rfl
  case h =>   -- 2: t27 := Op.fieldAddr 44 (tmp 6) 1
    intro ax wx hE hR hF
    have e6 : ax.eval (.tmp 6) = .pointer (some ⟨w1.heap.size, 0, none⟩) := hE.eval 6 (by rfl) rfl
    simp [go_sem, BigFrame.eval_const, BigFrame.eval_global, BigFrame.eval_func, ↓IntWalk.iteOmega, ev e6, hwm, dn, dc]
    with_reducible rfl
  apply Build.det 28 Ext.refl (by rfl) (by rfl) rfl
  case h =>   -- 3: t28 := Op.load 3 (tmp 27)
    intro ax wx hE hR hF
    have e27 : ax.eval (.tmp 27) = _ := hF 2 (det 27 _) (by decide) (.head _)
    have hX4 := HX.out.ext hR; have q1 := hX4.cell 1; have q2 := hX4.cell 2
    simp [go_sem, BigFrame.eval_const, BigFrame.eval_global, BigFrame.eval_func, ↓IntWalk.iteOmega, ev e27, hwm, dn, dc, q1, q2]
    with_reducible rfl
  apply Build.det 29 Ext.refl (by rfl) (by rfl) rfl
  case h =>   -- 4: t29 := Op.binOp BinOp.mul 3 (tmp 28) (const (Value.int IntKind.i64 16)) 3
    intro ax wx hE hR hF
    have e28 : ax.eval (.tmp 28) = _ := hF 3 (det 28 _) (by decide) (.head _)
    simp [go_sem, BigFrame.eval_const, BigFrame.eval_global, BigFrame.eval_func, ↓IntWalk.iteOmega, ev e28, hwm, dn, dc]
    with_reducible rfl
  apply Build.det 30 Ext.refl (by rfl) (by rfl) rfl
  case h =>   -- 5: t30 := Op.binOp BinOp.neq 3 (tmp 26) (tmp 29) 3
    intro ax wx hE hR hF
    have e26 : ax.eval (.tmp 26) = _ := hF 1 (det 26 _) (by decide) (.tail _ (.tail _ (.tail _ (.head _))))
    have e29 : ax.eval (.tmp 29) = _ := hF 4 (det 29 _) (by decide) (.head _)
    simp [go_sem, BigFrame.eval_const, BigFrame.eval_global, BigFrame.eval_func, ↓IntWalk.iteOmega, ev e26, ev e29, hwm, dn, dc]
    with_reducible rfl
  apply Build.det 31 Ext.refl (by rfl) (by rfl) rfl
  case h =>   -- 6: t31 := Op.move (tmp 30)
    intro ax wx hE hR hF
    have e30 : ax.eval (.tmp 30) = _ := hF 5 (det 30 _) (by decide) (.head _)
    simp [go_sem, BigFrame.eval_const, BigFrame.eval_global, BigFrame.eval_func, ↓IntWalk.iteOmega, ev e30, hwm, dn, dc]
    with_reducible rfl
  apply Build.detg 32 Ext.refl (by rfl) (by rfl) rfl rfl
  case h =>   -- 7: t32 := Op.move (tmp 0)
    intro ax wx hE hR hF
    have e0 : ax.eval (.tmp 0) = .string S := hE.eval 0 (by rfl) rfl
    have e31 : ax.eval (.tmp 31) = _ := hF 6 (det 31 _) (by decide) (.head _)
    refine ⟨e31, ?_⟩
    simp [go_sem, BigFrame.eval_const, BigFrame.eval_global, BigFrame.eval_func, ↓IntWalk.iteOmega, ev e0, ev e31, hwm, dn, dc]
    with_reducible rfl
  apply Build.callg 33 Ext.refl (by rfl) (by rfl) rfl rfl
  case h =>
    intro ax wx hE hR hF
    have e31 : ax.eval (.tmp 31) = _ := hF 6 (det 31 _) (by decide) (.tail _ (.head _))
    have e32 : ax.eval (.tmp 32) = _ := hF 7 (det 32 _) (by decide) (.head _)
    refine ⟨e31, ?_⟩
    simp [go_sem, BigFrame.eval_const, BigFrame.eval_global, BigFrame.eval_func, ↓IntWalk.iteOmega, ev e31, ev e32, hwm, dn, dc]
    with_reducible exact ⟨rfl, rfl⟩
  case hc => intro wx hR; with_reducible exact HS.out wx
  apply Build.detg 34 Ext.refl (by rfl) (by rfl) rfl rfl
  case h =>   -- 9: t34 := Op.fieldAddr 44 (tmp 6) 2
    intro ax wx hE hR hF
    have e6 : ax.eval (.tmp 6) = .pointer (some ⟨w1.heap.size, 0, none⟩) := hE.eval 6 (by rfl) rfl
    have e31 : ax.eval (.tmp 31) = _ := hF 6 (det 31 _) (by decide) (.tail _ (.tail _ (.head _)))
    refine ⟨e31, ?_⟩
    simp [go_sem, BigFrame.eval_const, BigFrame.eval_global, BigFrame.eval_func, ↓IntWalk.iteOmega, ev e6, ev e31, hwm, dn, dc]
    with_reducible rfl
  apply Build.detg 35 Ext.refl (by rfl) (by rfl) rfl rfl
  case h =>   -- 10: t35 := Op.load 38 (tmp 34)
    intro ax wx hE hR hF
    have e31 : ax.eval (.tmp 31) = _ := hF 6 (det 31 _) (by decide) (.tail _ (.tail _ (.tail _ (.head _))))
    have e34 : ax.eval (.tmp 34) = _ := hF 9 (det 34 _) (by decide) (.head _)
    have hX4 := HX.out.ext hR; have q1 := hX4.cell 1; have q2 := hX4.cell 2
    refine ⟨e31, ?_⟩
    simp [go_sem, BigFrame.eval_const, BigFrame.eval_global, BigFrame.eval_func, ↓IntWalk.iteOmega, ev e31, ev e34, hwm, dn, dc, q1, q2]
    with_reducible rfl
  apply Build.detg 36 Ext.refl (by rfl) (by rfl) rfl rfl
  case h =>   -- 11: t36 := Op.binOp BinOp.neq 38 (tmp 33) (tmp 35) 38
    intro ax wx hE hR hF
    have e31 : ax.eval (.tmp 31) = _ := hF 6 (det 31 _) (by decide) (mem4 (.head _))
    have e33 : ax.eval (.tmp 33) = _ := hF 8 (det 33 _) (by decide) (.tail _ (.tail _ (.head _)))
    have e35 : ax.eval (.tmp 35) = _ := hF 10 (det 35 _) (by decide) (.head _)
    refine ⟨e31, ?_⟩
    simp [go_sem, BigFrame.eval_const, BigFrame.eval_global, BigFrame.eval_func, ↓IntWalk.iteOmega, ev e31, ev e33, ev e35, hwm, dn, dc]
    with_reducible rfl
  apply Build.det 37 Ext.refl (by rfl) (by rfl) rfl
  case h =>   -- 12: t37 := Op.pick (tmp 31) (const (Value.bool true)) (tmp 36)
    intro ax wx hE hR hF
    have e31 : ax.eval (.tmp 31) = _ := hF 6 (det 31 _) (by decide) (mem4 (.tail _ (.head _)))
    have e36 : ax.eval (.tmp 36) = _ := hF 11 (det 36 _) (by decide) (.head _)
    simp [go_sem, BigFrame.eval_const, BigFrame.eval_global, BigFrame.eval_func, ↓IntWalk.iteOmega, ev e31, ev e36, hwm, dn, dc]
    with_reducible rfl
  apply Build.stop
  refine ⟨by kernel_rfl, .inl ⟨rfl, ?_⟩⟩
  intro ax w4 hE R4 hF
  have e25 : ax.eval (.tmp 25) = _ := hF 0 (det 25 _) (mem4 (mem4 (mem4 (.head _))))
  have e26 : ax.eval (.tmp 26) = _ := hF 1 (det 26 _) (mem4 (mem4 (.tail _ (.tail _ (.tail _ (.head _))))))
  have e27 : ax.eval (.tmp 27) = _ := hF 2 (det 27 _) (mem4 (mem4 (.tail _ (.tail _ (.head _)))))
  have e28 : ax.eval (.tmp 28) = _ := hF 3 (det 28 _) (mem4 (mem4 (.tail _ (.head _))))
  have e29 : ax.eval (.tmp 29) = _ := hF 4 (det 29 _) (mem4 (mem4 (.head _)))
  have e30 : ax.eval (.tmp 30) = _ := hF 5 (det 30 _) (mem4 (.tail _ (.tail _ (.tail _ (.head _)))))
  have e31 : ax.eval (.tmp 31) = _ := hF 6 (det 31 _) (mem4 (.tail _ (.tail _ (.head _))))
  have e32 : ax.eval (.tmp 32) = _ := hF 7 (det 32 _) (mem4 (.tail _ (.head _)))
  have e33 : ax.eval (.tmp 33) = _ := hF 8 (det 33 _) (mem4 (.head _))
  have e34 : ax.eval (.tmp 34) = _ := hF 9 (det 34 _) (.tail _ (.tail _ (.tail _ (.head _))))
  have e35 : ax.eval (.tmp 35) = _ := hF 10 (det 35 _) (.tail _ (.tail _ (.head _)))
  have e36 : ax.eval (.tmp 36) = _ := hF 11 (det 36 _) (.tail _ (.head _))
  have e37 : ax.eval (.tmp 37) = _ := hF 12 (det 37 _) (.head _)
  rw [AllEq.frame (D := [25, 26, 27, 28, 29, 30, 31, 32, 33, 34, 35, 36, 37]) (AllEq.cons e25 (AllEq.cons e26 (AllEq.cons e27 (AllEq.cons e28 (AllEq.cons e29 (AllEq.cons e30 (AllEq.cons e31 (AllEq.cons e32 (AllEq.cons e33 (AllEq.cons e34 (AllEq.cons e35 (AllEq.cons e36 (AllEq.cons e37 (AllEq.nil)))))))))))))) hE rfl]
  clear hF hE e25 e26 e27 e28 e29 e30 e31 e32 e33 e34 e35 e36 e37
  simp only [List.foldl_cons, List.foldl_nil, Act.put, List.setIfInBounds_toArray, List.set_cons_succ, List.set_cons_zero]
  go_wp2_with fail
  refine (HA.out _ _ _ (HRW.out.extx R4)).mono ?_
  rintro e w5 ⟨rfl, R5⟩
  have R45 := R4.trans R5
  go_upto_region 9 with fail
  refine wp_typed (R := Ext) (w0 := w5) [[], [0], [0, 1], [0, 1, 2], [0, 1, 2, 3], [0, 1, 2], [0, 1, 2, 5], [0, 1, 2, 3, 4, 5, 6], [0, 1, 2, 3, 4, 5, 6, 7]] [44, 45, 46, 47, 48, 49, 50, 51, 52] Ext.refl (fun _ _ _ => Ext.trans) (Ext.drew _) (by kernel_rfl) ?_
  apply Build.det 44 Ext.refl (by rfl) (by rfl) rfl
  case h =>   -- 0: t44 := Op.move (tmp 8)
    intro ax wx hE hR hF
    have e8 : ax.eval (.tmp 8) = .int .i64 0 := hE.eval 8 (by rfl) rfl
    simp [go_sem, BigFrame.eval_const, BigFrame.eval_global, BigFrame.eval_func, ↓IntWalk.iteOmega, ev e8, dg]
    with_reducible rfl
  apply Build.det 45 Ext.refl (by rfl) (by rfl) rfl
  case h =>   -- 1: t45 := Op.binOp BinOp.neq 26 (tmp 44) (const (Value.int IntKind.i64 0)) 26
    intro ax wx hE hR hF
    have e44 : ax.eval (.tmp 44) = _ := hF 0 (det 44 _) (by decide) (.head _)
    simp [go_sem, BigFrame.eval_const, BigFrame.eval_global, BigFrame.eval_func, ↓IntWalk.iteOmega, ev e44, dg]
    with_reducible rfl
  apply Build.det 46 Ext.refl (by rfl) (by rfl) rfl
  case h =>   -- 2: t46 := Op.move (tmp 45)
    intro ax wx hE hR hF
    have e45 : ax.eval (.tmp 45) = _ := hF 1 (det 45 _) (by decide) (.head _)
    simp [go_sem, BigFrame.eval_const, BigFrame.eval_global, BigFrame.eval_func, ↓IntWalk.iteOmega, ev e45, dg]
    with_reducible rfl
  apply Build.detg 47 Ext.refl (by rfl) (by rfl) rfl rfl
  case h =>   -- 3: t47 := Op.move (tmp 9)
    intro ax wx hE hR hF
    have e9 : ax.eval (.tmp 9) = .string T := hE.eval 9 (by rfl) rfl
    have e46 : ax.eval (.tmp 46) = _ := hF 2 (det 46 _) (by decide) (.head _)
    refine ⟨e46, ?_⟩
    simp [go_sem, BigFrame.eval_const, BigFrame.eval_global, BigFrame.eval_func, ↓IntWalk.iteOmega, ev e9, ev e46, dg]
    with_reducible rfl
  apply Build.callg 48 Ext.refl (by rfl) (by rfl) rfl rfl
  case h =>
    intro ax wx hE hR hF
    have e46 : ax.eval (.tmp 46) = _ := hF 2 (det 46 _) (by decide) (.tail _ (.head _))
    have e47 : ax.eval (.tmp 47) = _ := hF 3 (det 47 _) (by decide) (.head _)
    refine ⟨e46, ?_⟩
    simp [go_sem, BigFrame.eval_const, BigFrame.eval_global, BigFrame.eval_func, ↓IntWalk.iteOmega, ev e46, ev e47, dg]
    with_reducible exact ⟨rfl, rfl⟩
  case hc => intro wx hR; with_reducible exact HG.out wx
  apply Build.detg 49 Ext.refl (by rfl) (by rfl) rfl rfl
  case h =>   -- 5: t49 := Op.fieldAddr 44 (tmp 6) 3
    intro ax wx hE hR hF
    have e6 : ax.eval (.tmp 6) = .pointer (some ⟨w1.heap.size, 0, none⟩) := hE.eval 6 (by rfl) rfl
    have e46 : ax.eval (.tmp 46) = _ := hF 2 (det 46 _) (by decide) (.tail _ (.tail _ (.head _)))
    refine ⟨e46, ?_⟩
    simp [go_sem, BigFrame.eval_const, BigFrame.eval_global, BigFrame.eval_func, ↓IntWalk.iteOmega, ev e6, ev e46, dg]
    with_reducible rfl
  apply Build.detg 50 Ext.refl (by rfl) (by rfl) rfl rfl
  case h =>   -- 6: t50 := Op.load 38 (tmp 49)
    intro ax wx hE hR hF
    have e46 : ax.eval (.tmp 46) = _ := hF 2 (det 46 _) (by decide) (.tail _ (.tail _ (.tail _ (.head _))))
    have e49 : ax.eval (.tmp 49) = _ := hF 5 (det 49 _) (by decide) (.head _)
    have hX4 := HX.out.ext (R45.trans hR); have q3 := hX4.cell 3
    refine ⟨e46, ?_⟩
    simp [go_sem, BigFrame.eval_const, BigFrame.eval_global, BigFrame.eval_func, ↓IntWalk.iteOmega, ev e46, ev e49, dg, q3]
    with_reducible rfl
  apply Build.detg 51 Ext.refl (by rfl) (by rfl) rfl rfl
  case h =>   -- 7: t51 := Op.binOp BinOp.neq 38 (tmp 48) (tmp 50) 38
    intro ax wx hE hR hF
    have e46 : ax.eval (.tmp 46) = _ := hF 2 (det 46 _) (by decide) (mem4 (.head _))
    have e48 : ax.eval (.tmp 48) = _ := hF 4 (det 48 _) (by decide) (.tail _ (.tail _ (.head _)))
    have e50 : ax.eval (.tmp 50) = _ := hF 6 (det 50 _) (by decide) (.head _)
    refine ⟨e46, ?_⟩
    simp [go_sem, BigFrame.eval_const, BigFrame.eval_global, BigFrame.eval_func, ↓IntWalk.iteOmega, ev e46, ev e48, ev e50, dg]
    with_reducible rfl
  apply Build.det 52 Ext.refl (by rfl) (by rfl) rfl
  case h =>   -- 8: t52 := Op.pick (tmp 46) (const (Value.bool true)) (tmp 51)
    intro ax wx hE hR hF
    have e46 : ax.eval (.tmp 46) = _ := hF 2 (det 46 _) (by decide) (mem4 (.tail _ (.head _)))
    have e51 : ax.eval (.tmp 51) = _ := hF 7 (det 51 _) (by decide) (.head _)
    simp [go_sem, BigFrame.eval_const, BigFrame.eval_global, BigFrame.eval_func, ↓IntWalk.iteOmega, ev e46, ev e51, dg]
    with_reducible rfl
  apply Build.stop
  refine ⟨by kernel_rfl, .inl ⟨rfl, ?_⟩⟩
  intro ax w6 hE R6 hF
  have e44 : ax.eval (.tmp 44) = _ := hF 0 (det 44 _) (mem4 (mem4 (.head _)))
  have e45 : ax.eval (.tmp 45) = _ := hF 1 (det 45 _) (mem4 (.tail _ (.tail _ (.tail _ (.head _)))))
  have e46 : ax.eval (.tmp 46) = _ := hF 2 (det 46 _) (mem4 (.tail _ (.tail _ (.head _))))
  have e47 : ax.eval (.tmp 47) = _ := hF 3 (det 47 _) (mem4 (.tail _ (.head _)))
  have e48 : ax.eval (.tmp 48) = _ := hF 4 (det 48 _) (mem4 (.head _))
  have e49 : ax.eval (.tmp 49) = _ := hF 5 (det 49 _) (.tail _ (.tail _ (.tail _ (.head _))))
  have e50 : ax.eval (.tmp 50) = _ := hF 6 (det 50 _) (.tail _ (.tail _ (.head _)))
  have e51 : ax.eval (.tmp 51) = _ := hF 7 (det 51 _) (.tail _ (.head _))
  have e52 : ax.eval (.tmp 52) = _ := hF 8 (det 52 _) (.head _)
  rw [AllEq.frame (D := [44, 45, 46, 47, 48, 49, 50, 51, 52]) (AllEq.cons e44 (AllEq.cons e45 (AllEq.cons e46 (AllEq.cons e47 (AllEq.cons e48 (AllEq.cons e49 (AllEq.cons e50 (AllEq.cons e51 (AllEq.cons e52 (AllEq.nil)))))))))) hE rfl]
  clear hF hE e44 e45 e46 e47 e48 e49 e50 e51 e52
  simp only [List.foldl_cons, List.foldl_nil, Act.put, List.setIfInBounds_toArray, List.set_cons_succ, List.set_cons_zero]
  go_wp2_with fail
  go_ret2
  exact ⟨rfl, (hE.trans R45).trans R6⟩
set_option maxRecDepth 100000 in
set_option maxHeartbeats 4000000 in
theorem take_all (g : Nat → UInt8) (n : Nat) (hn : n ≤ 4096) (S s T : ByteArray) (hT : txt g n = T) (hs : s.data.toList = allL g n) (w : World) :
    Calls Try.prog 19 #[.string S, .string s] w fun e w' => e = .returned (.tuple #[.string T, .int .i64 0]) ∧ Ext w w' := by
  have HRD := Lib.hid (read_all g n hn s hs)
  obtain ⟨cg, hcg⟩ : ∃ c, crcX g n = c := ⟨_, rfl⟩
  have HG := Lib.hid (sum_txt g n hn T hT cg hcg)
  obtain ⟨Z, hZ⟩ : ∃ q, txt zf n = q := ⟨_, rfl⟩
  have HZ := Lib.hid (zeros_any n (by omega) Z hZ)
  obtain ⟨len, hlen⟩ : ∃ l, (exts zf g n).length = l := ⟨_, rfl⟩
  have hqq : txt (fun i => if g i = zf i then zf i else g i) n = txt g n := by
    rw [txt_eq]; intro i _; split <;> simp_all
  have ap : ∀ (W : World) (A : Option Addr) (cap : Nat), Row W A 2 xC (exts zf g n) → Calls Try.prog 13 #[.string (txt zf n), .slice A len cap] W fun e w' => e = .returned (.tuple #[.string T, .int .i64 0]) ∧ Ext W w' := fun W A cap => apply_call zf g zf n (by omega) T (hqq.trans hT) A len cap W hlen
  rw [hZ] at ap
  have HA := Lib.hid ap
  rw [hcg, hlen] at HRD
  have dg : ((cg : Int) != (cg : Int)) = false := by simp
  clear hcg hs hT hqq ap hZ
  go_enter Try.func19, Try.ntmps19
  go_wp2_with fail
  refine (HRD.out _).mono ?_
  rintro e w1 ⟨A, cap, rfl, hrow, R1⟩
  have E1 := Ext.alloc w1 (.cells #[.int .i64 1, .int .i64 n, .int .u32 0, .int .u32 cg] 44)
  have hX := Blk.new w1 44 #[.int .i64 1, .int .i64 n, .int .u32 0, .int .u32 cg]
  have k0 := hX.cell 0
  have k1 := hX.cell 1
  have HX := Lib.hid hX
  have hE := R1.trans E1
  have HRW := Lib.hid (hrow.extx E1)
  clear hrow hX
  go_wp2_with fail
  refine (HZ.out _).mono ?_
  rintro e w4 ⟨rfl, R4⟩
  clear k0 k1
  go_wp2_with fail
  refine (HA.out _ _ _ (HRW.out.extx R4)).mono ?_
  rintro e w5 ⟨rfl, R5⟩
  have R45 := R4.trans R5
  go_upto_region 9 with fail
  refine wp_typed (R := Ext) (w0 := w5) [[], [0], [0, 1], [0, 1, 2], [0, 1, 2, 3], [0, 1, 2], [0, 1, 2, 5], [0, 1, 2, 3, 4, 5, 6], [0, 1, 2, 3, 4, 5, 6, 7]] [44, 45, 46, 47, 48, 49, 50, 51, 52] Ext.refl (fun _ _ _ => Ext.trans) (Ext.drew _) (by kernel_rfl) ?_
  apply Build.det 44 Ext.refl (by rfl) (by rfl) rfl
  case h =>   -- 0: t44 := Op.move (tmp 8)
    intro ax wx hE hR hF
    have e8 : ax.eval (.tmp 8) = .int .i64 0 := hE.eval 8 (by rfl) rfl
    simp [go_sem, BigFrame.eval_const, BigFrame.eval_global, BigFrame.eval_func, ↓IntWalk.iteOmega, ev e8, dg]
    with_reducible rfl
  apply Build.det 45 Ext.refl (by rfl) (by rfl) rfl
  case h =>   -- 1: t45 := Op.binOp BinOp.neq 26 (tmp 44) (const (Value.int IntKind.i64 0)) 26
    intro ax wx hE hR hF
    have e44 : ax.eval (.tmp 44) = _ := hF 0 (det 44 _) (by decide) (.head _)
    simp [go_sem, BigFrame.eval_const, BigFrame.eval_global, BigFrame.eval_func, ↓IntWalk.iteOmega, ev e44, dg]
    with_reducible rfl
  apply Build.det 46 Ext.refl (by rfl) (by rfl) rfl
  case h =>   -- 2: t46 := Op.move (tmp 45)
    intro ax wx hE hR hF
    have e45 : ax.eval (.tmp 45) = _ := hF 1 (det 45 _) (by decide) (.head _)
    simp [go_sem, BigFrame.eval_const, BigFrame.eval_global, BigFrame.eval_func, ↓IntWalk.iteOmega, ev e45, dg]
    with_reducible rfl
  apply Build.detg 47 Ext.refl (by rfl) (by rfl) rfl rfl
  case h =>   -- 3: t47 := Op.move (tmp 9)
    intro ax wx hE hR hF
    have e9 : ax.eval (.tmp 9) = .string T := hE.eval 9 (by rfl) rfl
    have e46 : ax.eval (.tmp 46) = _ := hF 2 (det 46 _) (by decide) (.head _)
    refine ⟨e46, ?_⟩
    simp [go_sem, BigFrame.eval_const, BigFrame.eval_global, BigFrame.eval_func, ↓IntWalk.iteOmega, ev e9, ev e46, dg]
    with_reducible rfl
  apply Build.callg 48 Ext.refl (by rfl) (by rfl) rfl rfl
  case h =>
    intro ax wx hE hR hF
    have e46 : ax.eval (.tmp 46) = _ := hF 2 (det 46 _) (by decide) (.tail _ (.head _))
    have e47 : ax.eval (.tmp 47) = _ := hF 3 (det 47 _) (by decide) (.head _)
    refine ⟨e46, ?_⟩
    simp [go_sem, BigFrame.eval_const, BigFrame.eval_global, BigFrame.eval_func, ↓IntWalk.iteOmega, ev e46, ev e47, dg]
    with_reducible exact ⟨rfl, rfl⟩
  case hc => intro wx hR; with_reducible exact HG.out wx
  apply Build.detg 49 Ext.refl (by rfl) (by rfl) rfl rfl
  case h =>   -- 5: t49 := Op.fieldAddr 44 (tmp 6) 3
    intro ax wx hE hR hF
    have e6 : ax.eval (.tmp 6) = .pointer (some ⟨w1.heap.size, 0, none⟩) := hE.eval 6 (by rfl) rfl
    have e46 : ax.eval (.tmp 46) = _ := hF 2 (det 46 _) (by decide) (.tail _ (.tail _ (.head _)))
    refine ⟨e46, ?_⟩
    simp [go_sem, BigFrame.eval_const, BigFrame.eval_global, BigFrame.eval_func, ↓IntWalk.iteOmega, ev e6, ev e46, dg]
    with_reducible rfl
  apply Build.detg 50 Ext.refl (by rfl) (by rfl) rfl rfl
  case h =>   -- 6: t50 := Op.load 38 (tmp 49)
    intro ax wx hE hR hF
    have e46 : ax.eval (.tmp 46) = _ := hF 2 (det 46 _) (by decide) (.tail _ (.tail _ (.tail _ (.head _))))
    have e49 : ax.eval (.tmp 49) = _ := hF 5 (det 49 _) (by decide) (.head _)
    have hX4 := HX.out.ext (R45.trans hR); have q3 := hX4.cell 3
    refine ⟨e46, ?_⟩
    simp [go_sem, BigFrame.eval_const, BigFrame.eval_global, BigFrame.eval_func, ↓IntWalk.iteOmega, ev e46, ev e49, dg, q3]
    with_reducible rfl
  apply Build.detg 51 Ext.refl (by rfl) (by rfl) rfl rfl
  case h =>   -- 7: t51 := Op.binOp BinOp.neq 38 (tmp 48) (tmp 50) 38
    intro ax wx hE hR hF
    have e46 : ax.eval (.tmp 46) = _ := hF 2 (det 46 _) (by decide) (mem4 (.head _))
    have e48 : ax.eval (.tmp 48) = _ := hF 4 (det 48 _) (by decide) (.tail _ (.tail _ (.head _)))
    have e50 : ax.eval (.tmp 50) = _ := hF 6 (det 50 _) (by decide) (.head _)
    refine ⟨e46, ?_⟩
    simp [go_sem, BigFrame.eval_const, BigFrame.eval_global, BigFrame.eval_func, ↓IntWalk.iteOmega, ev e46, ev e48, ev e50, dg]
    with_reducible rfl
  apply Build.det 52 Ext.refl (by rfl) (by rfl) rfl
  case h =>   -- 8: t52 := Op.pick (tmp 46) (const (Value.bool true)) (tmp 51)
    intro ax wx hE hR hF
    have e46 : ax.eval (.tmp 46) = _ := hF 2 (det 46 _) (by decide) (mem4 (.tail _ (.head _)))
    have e51 : ax.eval (.tmp 51) = _ := hF 7 (det 51 _) (by decide) (.head _)
    simp [go_sem, BigFrame.eval_const, BigFrame.eval_global, BigFrame.eval_func, ↓IntWalk.iteOmega, ev e46, ev e51, dg]
    with_reducible rfl
  apply Build.stop
  refine ⟨by kernel_rfl, .inl ⟨rfl, ?_⟩⟩
  intro ax w6 hE R6 hF
  have e44 : ax.eval (.tmp 44) = _ := hF 0 (det 44 _) (mem4 (mem4 (.head _)))
  have e45 : ax.eval (.tmp 45) = _ := hF 1 (det 45 _) (mem4 (.tail _ (.tail _ (.tail _ (.head _)))))
  have e46 : ax.eval (.tmp 46) = _ := hF 2 (det 46 _) (mem4 (.tail _ (.tail _ (.head _))))
  have e47 : ax.eval (.tmp 47) = _ := hF 3 (det 47 _) (mem4 (.tail _ (.head _)))
  have e48 : ax.eval (.tmp 48) = _ := hF 4 (det 48 _) (mem4 (.head _))
  have e49 : ax.eval (.tmp 49) = _ := hF 5 (det 49 _) (.tail _ (.tail _ (.tail _ (.head _))))
  have e50 : ax.eval (.tmp 50) = _ := hF 6 (det 50 _) (.tail _ (.tail _ (.head _)))
  have e51 : ax.eval (.tmp 51) = _ := hF 7 (det 51 _) (.tail _ (.head _))
  have e52 : ax.eval (.tmp 52) = _ := hF 8 (det 52 _) (.head _)
  rw [AllEq.frame (D := [44, 45, 46, 47, 48, 49, 50, 51, 52]) (AllEq.cons e44 (AllEq.cons e45 (AllEq.cons e46 (AllEq.cons e47 (AllEq.cons e48 (AllEq.cons e49 (AllEq.cons e50 (AllEq.cons e51 (AllEq.cons e52 (AllEq.nil)))))))))) hE rfl]
  clear hF hE e44 e45 e46 e47 e48 e49 e50 e51 e52
  simp only [List.foldl_cons, List.foldl_nil, Act.put, List.setIfInBounds_toArray, List.set_cons_succ, List.set_cons_zero]
  go_wp2_with fail
  go_ret2
  exact ⟨rfl, (hE.trans R45).trans R6⟩
end Go.Proofs.Ytoiifcmjmjkcaaa
