/- HeadExact: of every head whether it can be and its bytes, of all bytes the head and the newest one are the document's. -/
import Derived.Test.YtencbdcfcpohaaaHeadAwake
import Derived.Test.YtencbdcfcpohaaaHeadArg
namespace Go.Proofs.Ytencbdcfcpohaaa
set_option linter.unusedVariables false
set_option linter.unusedSimpArgs false
open Go.RowKit


set_option maxHeartbeats 4000000 in
theorem headExact_yes (g r a b c : Nat) (hok : HeadOk g r a b c) (s t : ByteArray) (w : World) (hs : s.size ≤ 40) (ht : t.size ≤ 40) :
    Calls Try.prog 3 #[headV g r a b c, .string s, .string t] w fun e w' => e = .returned (.bool true) ∧ Below w.heap.size w w' := by
  have O0 := (Own.start w).new 25 #[.int .u64 g, .int .i64 r, .int .i64 a, .int .i64 b, .int .i64 c]
  have AW := Lib.hid awake6
  have X1 := hreads_any s (by omega)
  have X2 := rreads_any s
  have N1 := fun W => newest_any s t _ _ (hreads_any s (by omega)) (hreads_any t (by omega)) W _ rfl
  have N2 := fun W => rnewest_any s t _ _ (rreads_any s) (rreads_any t) W _ rfl
  generalize hN : newest (readL s.data.toList) (readL t.data.toList) = N at N1 N2
  clear hN
  generalize readL s.data.toList = X at X1 X2
  obtain ⟨xo, xg, xr, xa, xb, xc⟩ := X
  obtain ⟨⟨no, ng, nr, na, nb, nc⟩, ni⟩ := N
  unfold Reads at X1
  unfold RReads at X2
  simp only [HeadR.v, HeadR.e] at X1 X2 N1 N2
  have B1 := fun W => hbytes_yes g r a b c W hok
  have B2 := fun W => rhbytes_any g r a b c W hok
  generalize (⟨(sealL (headL g r a b c)).toArray⟩ : ByteArray) = q at B1 B2
  have HB := Lib.hid B1
  have RB := Lib.hid B2
  have GY := Lib.hid (fun W => hgood_yes g r a b c W hok)
  have RG := Lib.hid (fun W => rhgood_yes g r a b c W hok)
  clear hok B1 B2
  cases xo <;> cases no
  all_goals
    try simp only [Bool.false_eq_true, if_false, if_true] at X1 N1
    have X1 := Lib.hid X1
    have X2 := Lib.hid X2
    have N1 := Lib.hid N1
    have N2 := Lib.hid N2
    have EA := eq_arr2
    go_enter Try.func3, Try.ntmps3
    go_wp2_with fail
    refine (AW.out _).mono ?_
    rintro e w1 ⟨rfl, R1⟩
    have O1 := O0.ext R1
    clear O0 R1
    obtain ⟨A, -⟩ := O1.all
    have a0 := A.cell 0
    have a1 := A.cell 1
    have a2 := A.cell 2
    have a3 := A.cell 3
    have a4 := A.cell 4
    go_wp2_with fail
    refine (HB.out _).mono ?_
    rintro e w2 ⟨rfl, R2⟩
    have O2 := O1.ext R2
    clear a0 a1 a2 a3 a4 A O1 R2
    obtain ⟨A, -⟩ := O2.all
    go_upto_region 6 with fail
    refine wp_typed (R := Ext) (w0 := w2) [[], [0], [], [0, 1, 2], [0, 1, 2, 3]] [34, 35, 36, 37, 38] Ext.refl (fun _ _ _ => Ext.trans) (Ext.drew _) (by kernel_rfl) ?_
    apply Build.det 34 Ext.refl (by rfl) (by rfl) rfl
    case h =>   -- 0: t34 := Op.load 25 (tmp 3)
      intro ax wx hE hR hF
      have e3 : ax.eval (.tmp 3) = .pointer (some ⟨w.heap.size, 0, none⟩) := hE.eval 3 (by rfl) rfl
      have B := A.ext hR; have q0 := B.cell 0; have q1 := B.cell 1; have q2 := B.cell 2; have q3 := B.cell 3; have q4 := B.cell 4
      simp [go_sem, BigFrame.eval_const, BigFrame.eval_global, BigFrame.eval_func, ↓IntWalk.iteOmega, ev e3, q0, q1, q2, q3, q4]
      with_reducible rfl
    apply Build.call 35 Ext.refl (by rfl) (by rfl) rfl
    case h =>
      intro ax wx hE hR hF
      have e34 : ax.eval (.tmp 34) = _ := hF 0 (det 34 _) (by decide) (.head _)
      simp [go_sem, BigFrame.eval_const, BigFrame.eval_global, BigFrame.eval_func, ↓IntWalk.iteOmega, ev e34]
      with_reducible exact ⟨rfl, rfl⟩
    case hc => intro wx hR; with_reducible exact GY.out wx
    apply Build.det 36 Ext.refl (by rfl) (by rfl) rfl
    case h =>   -- 2: t36 := Op.load 25 (tmp 3)
      intro ax wx hE hR hF
      have e3 : ax.eval (.tmp 3) = .pointer (some ⟨w.heap.size, 0, none⟩) := hE.eval 3 (by rfl) rfl
      have B := A.ext hR; have q0 := B.cell 0; have q1 := B.cell 1; have q2 := B.cell 2; have q3 := B.cell 3; have q4 := B.cell 4
      simp [go_sem, BigFrame.eval_const, BigFrame.eval_global, BigFrame.eval_func, ↓IntWalk.iteOmega, ev e3, q0, q1, q2, q3, q4]
      with_reducible rfl
    apply Build.call 37 Ext.refl (by rfl) (by rfl) rfl
    case h =>
      intro ax wx hE hR hF
      have e36 : ax.eval (.tmp 36) = _ := hF 2 (det 36 _) (by decide) (.head _)
      simp [go_sem, BigFrame.eval_const, BigFrame.eval_global, BigFrame.eval_func, ↓IntWalk.iteOmega, ev e36]
      with_reducible exact ⟨rfl, rfl⟩
    case hc => intro wx hR; with_reducible exact RG.out wx
    apply Build.det 38 Ext.refl (by rfl) (by rfl) rfl
    case h =>   -- 4: t38 := Op.binOp BinOp.neq 4 (tmp 35) (tmp 37) 4
      intro ax wx hE hR hF
      have e35 : ax.eval (.tmp 35) = _ := hF 1 (det 35 _) (by decide) (.tail _ (.tail _ (.head _)))
      have e37 : ax.eval (.tmp 37) = _ := hF 3 (det 37 _) (by decide) (.head _)
      simp [go_sem, BigFrame.eval_const, BigFrame.eval_global, BigFrame.eval_func, ↓IntWalk.iteOmega, ev e35, ev e37]
      with_reducible rfl
    apply Build.stop
    refine ⟨by kernel_rfl, .inl ⟨rfl, ?_⟩⟩
    intro ax w3 hE R3 hF
    have e34 : ax.eval (.tmp 34) = _ := hF 0 (det 34 _) (.tail _ (.tail _ (.tail _ (.tail _ (.head _)))))
    have e35 : ax.eval (.tmp 35) = _ := hF 1 (det 35 _) (.tail _ (.tail _ (.tail _ (.head _))))
    have e36 : ax.eval (.tmp 36) = _ := hF 2 (det 36 _) (.tail _ (.tail _ (.head _)))
    have e37 : ax.eval (.tmp 37) = _ := hF 3 (det 37 _) (.tail _ (.head _))
    have e38 : ax.eval (.tmp 38) = _ := hF 4 (det 38 _) (.head _)
    rw [AllEq.frame (D := [34, 35, 36, 37, 38]) (AllEq.cons e34 (AllEq.cons e35 (AllEq.cons e36 (AllEq.cons e37 (AllEq.cons e38 (AllEq.nil)))))) hE rfl]
    clear hF hE e34 e35 e36 e37 e38
    simp only [List.foldl_cons, List.foldl_nil, Act.put, List.setIfInBounds_toArray, List.set_cons_succ, List.set_cons_zero]
    have O3 := O2.ext R3
    clear A O2 R3
    obtain ⟨A, -⟩ := O3.all
    have a0 := A.cell 0
    have a1 := A.cell 1
    have a2 := A.cell 2
    have a3 := A.cell 3
    have a4 := A.cell 4
    go_wp2_with fail
    refine (RG.out _).mono ?_
    rintro e w4 ⟨rfl, R4⟩
    have O4 := O3.ext R4
    clear a0 a1 a2 a3 a4 A O3 R4
    obtain ⟨A, -⟩ := O4.all
    have a0 := A.cell 0
    have a1 := A.cell 1
    have a2 := A.cell 2
    have a3 := A.cell 3
    have a4 := A.cell 4
    go_wp2_with fail
    refine (RB.out _).mono ?_
    rintro e w5 ⟨rfl, R5⟩
    have O6 := O4.ext R5
    clear a0 a1 a2 a3 a4 A O4 R5
    go_wp2_with fail
    refine (X1.out _).mono ?_
    rintro e w7 ⟨rfl, R7⟩
    have O7 := (O6.ext R7).new 25 #[.int .u64 xg, .int .i64 xr, .int .i64 xa, .int .i64 xb, .int .i64 xc]
    clear O6 R7
    go_wp2_with fail
    refine (X2.out _).mono ?_
    rintro e w8 ⟨rfl, R8⟩
    have O8 := (O7.ext R8).new 25 #[.int .u64 xg, .int .i64 xr, .int .i64 xa, .int .i64 xb, .int .i64 xc]
    clear O7 R8
    go_upto_region 15 with fail
    generalize w8.alloc (.cells #[.int .u64 xg, .int .i64 xr, .int .i64 xa, .int .i64 xb, .int .i64 xc] 25) = w9 at O8 ⊢
    obtain ⟨D, C, -⟩ := O8.all
    have c0 := C.cell 0
    have c1 := C.cell 1
    have c2 := C.cell 2
    have c3 := C.cell 3
    have c4 := C.cell 4
    have d0 := D.cell 0
    have d1 := D.cell 1
    have d2 := D.cell 2
    have d3 := D.cell 3
    have d4 := D.cell 4
    go_wp2_with fail
    refine (N1.out _).mono ?_
    rintro e w10 ⟨rfl, R10⟩
    have O10 := (O8.ext R10).new 25 #[.int .u64 ng, .int .i64 nr, .int .i64 na, .int .i64 nb, .int .i64 nc]
    clear c0 c1 c2 c3 c4 d0 d1 d2 d3 d4 D C O8 R10
    go_wp2_with fail
    refine (N2.out _).mono ?_
    rintro e w11 ⟨rfl, R11⟩
    have O11 := (O10.ext R11).new 25 #[.int .u64 ng, .int .i64 nr, .int .i64 na, .int .i64 nb, .int .i64 nc]
    clear O10 R11
    go_upto_region 19 with fail
    generalize w11.alloc (.cells #[.int .u64 ng, .int .i64 nr, .int .i64 na, .int .i64 nb, .int .i64 nc] 25) = w12 at O11 ⊢
    obtain ⟨D, C, -⟩ := O11.all
    have c0 := C.cell 0
    have c1 := C.cell 1
    have c2 := C.cell 2
    have c3 := C.cell 3
    have c4 := C.cell 4
    have d0 := D.cell 0
    have d1 := D.cell 1
    have d2 := D.cell 2
    have d3 := D.cell 3
    have d4 := D.cell 4
    go_wp2_with fail
    go_ret
    exact ⟨rfl, O11.done⟩

set_option maxHeartbeats 4000000 in
theorem headExact_no (g : Nat) (r a b c : Int) (hok : ¬ HeadOk g r a b c) (s t : ByteArray) (w : World) (hs : s.size ≤ 40) (ht : t.size ≤ 40) :
    Calls Try.prog 3 #[headV g r a b c, .string s, .string t] w fun e w' => e = .returned (.bool true) ∧ Below w.heap.size w w' := by
  have O0 := (Own.start w).new 25 #[.int .u64 g, .int .i64 r, .int .i64 a, .int .i64 b, .int .i64 c]
  have AW := Lib.hid awake6
  have X1 := hreads_any s (by omega)
  have X2 := rreads_any s
  have N1 := fun W => newest_any s t _ _ (hreads_any s (by omega)) (hreads_any t (by omega)) W _ rfl
  have N2 := fun W => rnewest_any s t _ _ (rreads_any s) (rreads_any t) W _ rfl
  generalize hN : newest (readL s.data.toList) (readL t.data.toList) = N at N1 N2
  clear hN
  generalize readL s.data.toList = X at X1 X2
  obtain ⟨xo, xg, xr, xa, xb, xc⟩ := X
  obtain ⟨⟨no, ng, nr, na, nb, nc⟩, ni⟩ := N
  unfold Reads at X1
  unfold RReads at X2
  simp only [HeadR.v, HeadR.e] at X1 X2 N1 N2
  have HB := Lib.hid (fun W => hbytes_no g r a b c W hok)
  have GY := Lib.hid (fun W => hgood_no g r a b c W hok)
  have RG := Lib.hid (fun W => rhgood_no g r a b c W hok)
  clear hok
  cases xo <;> cases no
  all_goals
    try simp only [Bool.false_eq_true, if_false, if_true] at X1 N1
    have X1 := Lib.hid X1
    have X2 := Lib.hid X2
    have N1 := Lib.hid N1
    have N2 := Lib.hid N2
    have EA := eq_arr2
    go_enter Try.func3, Try.ntmps3
    go_wp2_with fail
    refine (AW.out _).mono ?_
    rintro e w1 ⟨rfl, R1⟩
    have O1 := O0.ext R1
    clear O0 R1
    obtain ⟨A, -⟩ := O1.all
    have a0 := A.cell 0
    have a1 := A.cell 1
    have a2 := A.cell 2
    have a3 := A.cell 3
    have a4 := A.cell 4
    go_wp2_with fail
    refine (HB.out _).mono ?_
    rintro e w2 ⟨rfl, R2⟩
    have O2 := O1.ext R2
    clear a0 a1 a2 a3 a4 A O1 R2
    obtain ⟨A, -⟩ := O2.all
    go_upto_region 6 with fail
    refine wp_typed (R := Ext) (w0 := w2) [[], [0], [], [0, 1, 2], [0, 1, 2, 3]] [34, 35, 36, 37, 38] Ext.refl (fun _ _ _ => Ext.trans) (Ext.drew _) (by kernel_rfl) ?_
    apply Build.det 34 Ext.refl (by rfl) (by rfl) rfl
    case h =>   -- 0: t34 := Op.load 25 (tmp 3)
      intro ax wx hE hR hF
      have e3 : ax.eval (.tmp 3) = .pointer (some ⟨w.heap.size, 0, none⟩) := hE.eval 3 (by rfl) rfl
      have B := A.ext hR; have q0 := B.cell 0; have q1 := B.cell 1; have q2 := B.cell 2; have q3 := B.cell 3; have q4 := B.cell 4
      simp [go_sem, BigFrame.eval_const, BigFrame.eval_global, BigFrame.eval_func, ↓IntWalk.iteOmega, ev e3, q0, q1, q2, q3, q4]
      with_reducible rfl
    apply Build.call 35 Ext.refl (by rfl) (by rfl) rfl
    case h =>
      intro ax wx hE hR hF
      have e34 : ax.eval (.tmp 34) = _ := hF 0 (det 34 _) (by decide) (.head _)
      simp [go_sem, BigFrame.eval_const, BigFrame.eval_global, BigFrame.eval_func, ↓IntWalk.iteOmega, ev e34]
      with_reducible exact ⟨rfl, rfl⟩
    case hc => intro wx hR; with_reducible exact GY.out wx
    apply Build.det 36 Ext.refl (by rfl) (by rfl) rfl
    case h =>   -- 2: t36 := Op.load 25 (tmp 3)
      intro ax wx hE hR hF
      have e3 : ax.eval (.tmp 3) = .pointer (some ⟨w.heap.size, 0, none⟩) := hE.eval 3 (by rfl) rfl
      have B := A.ext hR; have q0 := B.cell 0; have q1 := B.cell 1; have q2 := B.cell 2; have q3 := B.cell 3; have q4 := B.cell 4
      simp [go_sem, BigFrame.eval_const, BigFrame.eval_global, BigFrame.eval_func, ↓IntWalk.iteOmega, ev e3, q0, q1, q2, q3, q4]
      with_reducible rfl
    apply Build.call 37 Ext.refl (by rfl) (by rfl) rfl
    case h =>
      intro ax wx hE hR hF
      have e36 : ax.eval (.tmp 36) = _ := hF 2 (det 36 _) (by decide) (.head _)
      simp [go_sem, BigFrame.eval_const, BigFrame.eval_global, BigFrame.eval_func, ↓IntWalk.iteOmega, ev e36]
      with_reducible exact ⟨rfl, rfl⟩
    case hc => intro wx hR; with_reducible exact RG.out wx
    apply Build.det 38 Ext.refl (by rfl) (by rfl) rfl
    case h =>   -- 4: t38 := Op.binOp BinOp.neq 4 (tmp 35) (tmp 37) 4
      intro ax wx hE hR hF
      have e35 : ax.eval (.tmp 35) = _ := hF 1 (det 35 _) (by decide) (.tail _ (.tail _ (.head _)))
      have e37 : ax.eval (.tmp 37) = _ := hF 3 (det 37 _) (by decide) (.head _)
      simp [go_sem, BigFrame.eval_const, BigFrame.eval_global, BigFrame.eval_func, ↓IntWalk.iteOmega, ev e35, ev e37]
      with_reducible rfl
    apply Build.stop
    refine ⟨by kernel_rfl, .inl ⟨rfl, ?_⟩⟩
    intro ax w3 hE R3 hF
    have e34 : ax.eval (.tmp 34) = _ := hF 0 (det 34 _) (.tail _ (.tail _ (.tail _ (.tail _ (.head _)))))
    have e35 : ax.eval (.tmp 35) = _ := hF 1 (det 35 _) (.tail _ (.tail _ (.tail _ (.head _))))
    have e36 : ax.eval (.tmp 36) = _ := hF 2 (det 36 _) (.tail _ (.tail _ (.head _)))
    have e37 : ax.eval (.tmp 37) = _ := hF 3 (det 37 _) (.tail _ (.head _))
    have e38 : ax.eval (.tmp 38) = _ := hF 4 (det 38 _) (.head _)
    rw [AllEq.frame (D := [34, 35, 36, 37, 38]) (AllEq.cons e34 (AllEq.cons e35 (AllEq.cons e36 (AllEq.cons e37 (AllEq.cons e38 (AllEq.nil)))))) hE rfl]
    clear hF hE e34 e35 e36 e37 e38
    simp only [List.foldl_cons, List.foldl_nil, Act.put, List.setIfInBounds_toArray, List.set_cons_succ, List.set_cons_zero]
    have O3 := O2.ext R3
    clear A O2 R3
    obtain ⟨A, -⟩ := O3.all
    have a0 := A.cell 0
    have a1 := A.cell 1
    have a2 := A.cell 2
    have a3 := A.cell 3
    have a4 := A.cell 4
    go_wp2_with fail
    refine (RG.out _).mono ?_
    rintro e w4 ⟨rfl, R4⟩
    have O6 := O3.ext R4
    clear a0 a1 a2 a3 a4 A O3 R4
    go_wp2_with fail
    refine (X1.out _).mono ?_
    rintro e w7 ⟨rfl, R7⟩
    have O7 := (O6.ext R7).new 25 #[.int .u64 xg, .int .i64 xr, .int .i64 xa, .int .i64 xb, .int .i64 xc]
    clear O6 R7
    go_wp2_with fail
    refine (X2.out _).mono ?_
    rintro e w8 ⟨rfl, R8⟩
    have O8 := (O7.ext R8).new 25 #[.int .u64 xg, .int .i64 xr, .int .i64 xa, .int .i64 xb, .int .i64 xc]
    clear O7 R8
    go_upto_region 15 with fail
    generalize w8.alloc (.cells #[.int .u64 xg, .int .i64 xr, .int .i64 xa, .int .i64 xb, .int .i64 xc] 25) = w9 at O8 ⊢
    obtain ⟨D, C, -⟩ := O8.all
    have c0 := C.cell 0
    have c1 := C.cell 1
    have c2 := C.cell 2
    have c3 := C.cell 3
    have c4 := C.cell 4
    have d0 := D.cell 0
    have d1 := D.cell 1
    have d2 := D.cell 2
    have d3 := D.cell 3
    have d4 := D.cell 4
    go_wp2_with fail
    refine (N1.out _).mono ?_
    rintro e w10 ⟨rfl, R10⟩
    have O10 := (O8.ext R10).new 25 #[.int .u64 ng, .int .i64 nr, .int .i64 na, .int .i64 nb, .int .i64 nc]
    clear c0 c1 c2 c3 c4 d0 d1 d2 d3 d4 D C O8 R10
    go_wp2_with fail
    refine (N2.out _).mono ?_
    rintro e w11 ⟨rfl, R11⟩
    have O11 := (O10.ext R11).new 25 #[.int .u64 ng, .int .i64 nr, .int .i64 na, .int .i64 nb, .int .i64 nc]
    clear O10 R11
    go_upto_region 19 with fail
    generalize w11.alloc (.cells #[.int .u64 ng, .int .i64 nr, .int .i64 na, .int .i64 nb, .int .i64 nc] 25) = w12 at O11 ⊢
    obtain ⟨D, C, -⟩ := O11.all
    have c0 := C.cell 0
    have c1 := C.cell 1
    have c2 := C.cell 2
    have c3 := C.cell 3
    have c4 := C.cell 4
    have d0 := D.cell 0
    have d1 := D.cell 1
    have d2 := D.cell 2
    have d3 := D.cell 3
    have d4 := D.cell 4
    go_wp2_with fail
    go_ret
    exact ⟨rfl, O11.done⟩

theorem headExact_core (g : Nat) (r a b c : Int) (s t : ByteArray) (w : World) :
    Calls Try.prog 3 #[headV g r a b c, .string s, .string t] w fun e w' => e = .returned (.bool true) ∧ Below w.heap.size w w' := by
  by_cases hs : s.size ≤ 40
  · by_cases ht : t.size ≤ 40
    · by_cases hok : HeadOk g r a b c
      · obtain ⟨R, rfl⟩ : ∃ n : Nat, r = n := ⟨r.toNat, by omega⟩
        obtain ⟨X, rfl⟩ : ∃ n : Nat, a = n := ⟨a.toNat, by omega⟩
        obtain ⟨Y, rfl⟩ : ∃ n : Nat, b = n := ⟨b.toNat, by omega⟩
        obtain ⟨Z, rfl⟩ : ∃ n : Nat, c = n := ⟨c.toNat, by omega⟩
        exact headExact_yes g R X Y Z hok s t w hs ht
      · exact headExact_no g r a b c hok s t w hs ht
    · have h1 : decide ((40 : Int) < s.size) = false := by simp; omega
      have h2 : decide ((40 : Int) < t.size) = true := by simp; omega
      have h3 : ¬ (40 : Int) < s.size := by omega
      have h4 : (40 : Int) < t.size := by omega
      have O0 := (Own.start w).new 25 #[.int .u64 g, .int .i64 r, .int .i64 a, .int .i64 b, .int .i64 c]
      go_enter Try.func3, Try.ntmps3
      go_wp2_with fail
      refine (awake6 _).mono ?_
      rintro e w1 ⟨rfl, R1⟩
      go_wp2_with fail
      go_ret
      exact ⟨rfl, (O0.ext R1).done⟩
  · have h1 : decide ((40 : Int) < s.size) = true := by simp; omega
    have h4 : (40 : Int) < s.size := by omega
    have O0 := (Own.start w).new 25 #[.int .u64 g, .int .i64 r, .int .i64 a, .int .i64 b, .int .i64 c]
    go_enter Try.func3, Try.ntmps3
    go_wp2_with fail
    refine (awake6 _).mono ?_
    rintro e w1 ⟨rfl, R1⟩
    go_wp2_with fail
    go_ret
    exact ⟨rfl, (O0.ext R1).done⟩

theorem headExact_walk (w : World) (v0 v1 v2 : Value) (h0 : Arg Try.prog w 25 v0) (h1 : Arg Try.prog w 9 v1) (h2 : Arg Try.prog w 9 v2) :
    Calls Try.prog 3 #[v0, v1, v2] w fun e w' => e = .returned (.bool true) ∧ Below w.heap.size w w' := by
  obtain ⟨g, r, a, b, c, rfl, _⟩ := arg_head h0
  obtain ⟨s, rfl, _⟩ := arg_string Try.underlying9 h1
  obtain ⟨t, rfl, _⟩ := arg_string Try.underlying9 h2
  exact headExact_core g r a b c s t w
end Go.Proofs.Ytencbdcfcpohaaa
