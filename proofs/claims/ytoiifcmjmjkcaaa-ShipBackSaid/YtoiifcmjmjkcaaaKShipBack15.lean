/- ship: isGood, read. -/
import Derived.Test.YtoiifcmjmjkcaaaKShipBack14
namespace Go.Proofs.Ytoiifcmjmjkcaaa
set_option linter.unusedVariables false
set_option linter.unusedSimpArgs false
open Go.RowKit

theorem isgood_chg (n was is : Nat) (f g : Nat → UInt8) (hn : n ≤ 4096) (w : World) (A : Option Addr) (cap : Nat) (hrow : Row w A 2 xC (exts f g n)) :
    Calls Try.prog 54 #[streamV 2 n was is, .slice A (exts f g n).length cap] w fun e w' => e = .returned (.bool true) ∧ Ext w w' := by
  obtain ⟨Z, hZ⟩ : ∃ q, txt zf n = q := ⟨_, rfl⟩
  have HZ := Lib.hid (zeros_any n (by omega) Z hZ)
  obtain ⟨q, hq⟩ : ∃ q, txt (fun i => if g i = f i then zf i else g i) n = q := ⟨_, rfl⟩
  obtain ⟨len, hlen⟩ : ∃ l, (exts f g n).length = l := ⟨_, rfl⟩
  have ap := fun W (h : Ext w W) => apply_call f g zf n (by omega) q hq A len cap W hlen (hrow.extx h)
  rw [hZ] at ap
  have HA := Lib.hid ap
  rw [hlen]
  have hE := Ext.alloc w (.cells #[.int .i64 2, .int .i64 n, .int .u32 was, .int .u32 is] 44)
  have hX := Blk.new w 44 #[.int .i64 2, .int .i64 n, .int .u32 was, .int .u32 is]
  clear hZ hq ap hlen hrow
  have k1 := hX.cell 1
  go_enter Try.func54, Try.ntmps54
  go_wp2_with fail
  refine (HZ.out _).mono ?_
  rintro e w2 ⟨rfl, R2⟩
  have hE2 := hE.trans R2
  have hX2 := hX.ext R2
  clear k1 hE hX R2
  go_wp2_with fail
  refine (HA.out _ hE2).mono ?_
  rintro e w3 ⟨rfl, R3⟩
  have hE3 := hE2.trans R3
  have hX3 := hX2.ext R3
  have k0 := hX3.cell 0
  clear hE2 hX2 R3 hX3
  go_wp2_with fail
  go_ret
  exact ⟨rfl, hE3⟩
theorem isgood_all (n : Nat) (g : Nat → UInt8) (hn : n ≤ 4096) (w : World) (A : Option Addr) (cap : Nat) (hrow : Row w A 2 xC (exts zf g n)) :
    Calls Try.prog 54 #[streamV 1 n 0 (crcX g n), .slice A (exts zf g n).length cap] w fun e w' => e = .returned (.bool true) ∧ Ext w w' := by
  obtain ⟨Z, hZ⟩ : ∃ q, txt zf n = q := ⟨_, rfl⟩
  have HZ := Lib.hid (zeros_any n (by omega) Z hZ)
  obtain ⟨c, hc⟩ : ∃ c, crcX g n = c := ⟨_, rfl⟩
  have hqq : txt (fun i => if g i = zf i then zf i else g i) n = txt g n := by
    rw [txt_eq]; intro i _; split <;> simp_all
  obtain ⟨q, hq⟩ : ∃ q, txt g n = q := ⟨_, rfl⟩
  have HS := Lib.hid (sum_txt g n hn q hq c hc)
  obtain ⟨len, hlen⟩ : ∃ l, (exts zf g n).length = l := ⟨_, rfl⟩
  have ap := fun W (h : Ext w W) => apply_call zf g zf n (by omega) q (hqq.trans hq) A len cap W hlen (hrow.extx h)
  rw [hZ] at ap
  have HA := Lib.hid ap
  rw [hlen, hc]
  have hE := Ext.alloc w (.cells #[.int .i64 1, .int .i64 n, .int .u32 0, .int .u32 c] 44)
  have hX := Blk.new w 44 #[.int .i64 1, .int .i64 n, .int .u32 0, .int .u32 c]
  clear hZ hq ap hlen hrow hc hqq
  have k1 := hX.cell 1
  go_enter Try.func54, Try.ntmps54
  go_wp2_with fail
  refine (HZ.out _).mono ?_
  rintro e w2 ⟨rfl, R2⟩
  have hE2 := hE.trans R2
  have hX2 := hX.ext R2
  clear k1 hE hX R2
  go_wp2_with fail
  refine (HA.out _ hE2).mono ?_
  rintro e w3 ⟨rfl, R3⟩
  have hE3 := hE2.trans R3
  have hX3 := hX2.ext R3
  have k0 := hX3.cell 0
  have HX3 := Lib.hid hX3
  clear hE2 hX2 R3 hX3
  go_upto_region 5 with fail
  clear k0
  refine wp_typed (R := Ext) (w0 := w3) [[], [0], [0, 1], [0, 1, 2], [0, 1, 2, 3], [0, 1, 2, 3, 4], [0, 1, 2, 3], [0, 1, 2, 3, 6], [0, 1, 2, 3, 4, 5, 6, 7], [0, 1, 2, 3, 4, 5, 6, 7, 8], [0, 1, 2, 3, 4, 5, 6, 7, 8, 9]] [22, 23, 24, 25, 26, 27, 28, 29, 30, 31, 4] Ext.refl (fun _ _ _ => Ext.trans) (Ext.drew _) (by kernel_rfl) ?_
  apply Build.det 22 Ext.refl (by rfl) (by rfl) rfl
  case h =>   -- 0: t22 := Op.fieldAddr 44 (tmp 2) 2
    intro ax wx hE hR hF
    have e2 : ax.eval (.tmp 2) = .pointer (some ⟨w.heap.size, 0, none⟩) := hE.eval 2 (by rfl) rfl
    simp [go_sem, BigFrame.eval_const, BigFrame.eval_global, BigFrame.eval_func, ↓IntWalk.iteOmega, ev e2]
    with_reducible rfl
  apply Build.det 23 Ext.refl (by rfl) (by rfl) rfl
  case h =>   -- 1: t23 := Op.load 38 (tmp 22)
    intro ax wx hE hR hF
    have e22 : ax.eval (.tmp 22) = _ := hF 0 (det 22 _) (by decide) (.head _)
    have hX4 := HX3.out.ext hR; have q2 := hX4.cell 2; have q3 := hX4.cell 3
    simp [go_sem, BigFrame.eval_const, BigFrame.eval_global, BigFrame.eval_func, ↓IntWalk.iteOmega, ev e22, q2, q3]
    with_reducible rfl
  apply Build.det 24 Ext.refl (by rfl) (by rfl) rfl
  case h =>   -- 2: t24 := Op.binOp BinOp.eql 38 (tmp 23) (const (Value.int IntKind.u32 0)) 38
    intro ax wx hE hR hF
    have e23 : ax.eval (.tmp 23) = _ := hF 1 (det 23 _) (by decide) (.head _)
    simp [go_sem, BigFrame.eval_const, BigFrame.eval_global, BigFrame.eval_func, ↓IntWalk.iteOmega, ev e23]
    with_reducible rfl
  apply Build.det 25 Ext.refl (by rfl) (by rfl) rfl
  case h =>   -- 3: t25 := Op.move (tmp 24)
    intro ax wx hE hR hF
    have e24 : ax.eval (.tmp 24) = _ := hF 2 (det 24 _) (by decide) (.head _)
    simp [go_sem, BigFrame.eval_const, BigFrame.eval_global, BigFrame.eval_func, ↓IntWalk.iteOmega, ev e24]
    with_reducible rfl
  apply Build.detg 26 Ext.refl (by rfl) (by rfl) rfl rfl
  case h =>   -- 4: t26 := Op.move (tmp 5)
    intro ax wx hE hR hF
    have e5 : ax.eval (.tmp 5) = .string q := hE.eval 5 (by rfl) rfl
    have e25 : ax.eval (.tmp 25) = _ := hF 3 (det 25 _) (by decide) (.head _)
    refine ⟨e25, ?_⟩
    simp [go_sem, BigFrame.eval_const, BigFrame.eval_global, BigFrame.eval_func, ↓IntWalk.iteOmega, ev e5, ev e25]
    with_reducible rfl
  apply Build.callg 27 Ext.refl (by rfl) (by rfl) rfl rfl
  case h =>
    intro ax wx hE hR hF
    have e25 : ax.eval (.tmp 25) = _ := hF 3 (det 25 _) (by decide) (.tail _ (.head _))
    have e26 : ax.eval (.tmp 26) = _ := hF 4 (det 26 _) (by decide) (.head _)
    refine ⟨e25, ?_⟩
    simp [go_sem, BigFrame.eval_const, BigFrame.eval_global, BigFrame.eval_func, ↓IntWalk.iteOmega, ev e25, ev e26]
    with_reducible exact ⟨rfl, rfl⟩
  case hc => intro wx hR; with_reducible exact HS.out wx
  apply Build.detg 28 Ext.refl (by rfl) (by rfl) rfl rfl
  case h =>   -- 6: t28 := Op.fieldAddr 44 (tmp 2) 3
    intro ax wx hE hR hF
    have e2 : ax.eval (.tmp 2) = .pointer (some ⟨w.heap.size, 0, none⟩) := hE.eval 2 (by rfl) rfl
    have e25 : ax.eval (.tmp 25) = _ := hF 3 (det 25 _) (by decide) (.tail _ (.tail _ (.head _)))
    refine ⟨e25, ?_⟩
    simp [go_sem, BigFrame.eval_const, BigFrame.eval_global, BigFrame.eval_func, ↓IntWalk.iteOmega, ev e2, ev e25]
    with_reducible rfl
  apply Build.detg 29 Ext.refl (by rfl) (by rfl) rfl rfl
  case h =>   -- 7: t29 := Op.load 38 (tmp 28)
    intro ax wx hE hR hF
    have e25 : ax.eval (.tmp 25) = _ := hF 3 (det 25 _) (by decide) (.tail _ (.tail _ (.tail _ (.head _))))
    have e28 : ax.eval (.tmp 28) = _ := hF 6 (det 28 _) (by decide) (.head _)
    have hX4 := HX3.out.ext hR; have q2 := hX4.cell 2; have q3 := hX4.cell 3
    refine ⟨e25, ?_⟩
    simp [go_sem, BigFrame.eval_const, BigFrame.eval_global, BigFrame.eval_func, ↓IntWalk.iteOmega, ev e25, ev e28, q2, q3]
    with_reducible rfl
  apply Build.detg 30 Ext.refl (by rfl) (by rfl) rfl rfl
  case h =>   -- 8: t30 := Op.binOp BinOp.eql 38 (tmp 27) (tmp 29) 38
    intro ax wx hE hR hF
    have e25 : ax.eval (.tmp 25) = _ := hF 3 (det 25 _) (by decide) (mem4 (.head _))
    have e27 : ax.eval (.tmp 27) = _ := hF 5 (det 27 _) (by decide) (.tail _ (.tail _ (.head _)))
    have e29 : ax.eval (.tmp 29) = _ := hF 7 (det 29 _) (by decide) (.head _)
    refine ⟨e25, ?_⟩
    simp [go_sem, BigFrame.eval_const, BigFrame.eval_global, BigFrame.eval_func, ↓IntWalk.iteOmega, ev e25, ev e27, ev e29]
    with_reducible rfl
  apply Build.det 31 Ext.refl (by rfl) (by rfl) rfl
  case h =>   -- 9: t31 := Op.pick (tmp 25) (tmp 30) (const (Value.bool false))
    intro ax wx hE hR hF
    have e25 : ax.eval (.tmp 25) = _ := hF 3 (det 25 _) (by decide) (mem4 (.tail _ (.head _)))
    have e30 : ax.eval (.tmp 30) = _ := hF 8 (det 30 _) (by decide) (.head _)
    simp [go_sem, BigFrame.eval_const, BigFrame.eval_global, BigFrame.eval_func, ↓IntWalk.iteOmega, ev e25, ev e30]
    with_reducible rfl
  apply Build.det 4 Ext.refl (by rfl) (by rfl) rfl
  case h =>   -- 10: t4 := Op.assign (tmp 31)
    intro ax wx hE hR hF
    have e31 : ax.eval (.tmp 31) = _ := hF 9 (det 31 _) (by decide) (.head _)
    simp [go_sem, BigFrame.eval_const, BigFrame.eval_global, BigFrame.eval_func, ↓IntWalk.iteOmega, ev e31]
    with_reducible rfl
  apply Build.stop
  refine ⟨by kernel_rfl, .inl ⟨rfl, ?_⟩⟩
  intro ax w4 hE R4 hF
  have e22 : ax.eval (.tmp 22) = _ := hF 0 (det 22 _) (mem4 (mem4 (.tail _ (.tail _ (.head _)))))
  have e23 : ax.eval (.tmp 23) = _ := hF 1 (det 23 _) (mem4 (mem4 (.tail _ (.head _))))
  have e24 : ax.eval (.tmp 24) = _ := hF 2 (det 24 _) (mem4 (mem4 (.head _)))
  have e25 : ax.eval (.tmp 25) = _ := hF 3 (det 25 _) (mem4 (.tail _ (.tail _ (.tail _ (.head _)))))
  have e26 : ax.eval (.tmp 26) = _ := hF 4 (det 26 _) (mem4 (.tail _ (.tail _ (.head _))))
  have e27 : ax.eval (.tmp 27) = _ := hF 5 (det 27 _) (mem4 (.tail _ (.head _)))
  have e28 : ax.eval (.tmp 28) = _ := hF 6 (det 28 _) (mem4 (.head _))
  have e29 : ax.eval (.tmp 29) = _ := hF 7 (det 29 _) (.tail _ (.tail _ (.tail _ (.head _))))
  have e30 : ax.eval (.tmp 30) = _ := hF 8 (det 30 _) (.tail _ (.tail _ (.head _)))
  have e31 : ax.eval (.tmp 31) = _ := hF 9 (det 31 _) (.tail _ (.head _))
  have e4 : ax.eval (.tmp 4) = _ := hF 10 (det 4 _) (.head _)
  rw [AllEq.frame (D := [22, 23, 24, 25, 26, 27, 28, 29, 30, 31, 4]) (AllEq.cons e22 (AllEq.cons e23 (AllEq.cons e24 (AllEq.cons e25 (AllEq.cons e26 (AllEq.cons e27 (AllEq.cons e28 (AllEq.cons e29 (AllEq.cons e30 (AllEq.cons e31 (AllEq.cons e4 (AllEq.nil)))))))))))) hE rfl]
  clear hF hE e22 e23 e24 e25 e26 e27 e28 e29 e30 e31 e4
  simp only [List.foldl_cons, List.foldl_nil, Act.put, List.setIfInBounds_toArray, List.set_cons_succ, List.set_cons_zero]
  go_wp2_with fail
  go_ret
  exact ⟨rfl, hE3.trans R4⟩

theorem open_sealed (Q : List UInt8) (hQ : Q.length ≤ 10000000) (s : ByteArray) (hd : s.data.toList = sealL Q) (T : ByteArray) (hT : (⟨Q.toArray⟩ : ByteArray) = T) (w : World) : Calls Try.prog 49 #[.string s] w fun e w' => e = .returned (.tuple #[.string T, .bool true]) ∧ Ext w w' := by
  have hl : s.data.toList.length = s.size := by simp
  have hl2 := sealL_length Q
  have htk : s.data.toList.take (s.size - 4) = Q := by
    rw [hd]
    unfold sealL
    exact List.take_left' (by rw [hd] at hl; omega)
  have := open_yes s w (by rw [hd] at hl; omega) (by rw [hd] at hl; omega) (by rw [htk, hd])
  rw [htk, hT] at this
  exact this
theorem strL_eq (k n was is : Nat) (L : List (Nat × ByteArray)) : strL k n was is L = le 83 1 ++ (le k 1 ++ (le n 4 ++ (le was 4 ++ (le is 4 ++ (le L.length 4 ++ extsL L))))) := by simp [strL, strH]
abbrev rdL (b : Nat) (l : List UInt8) : BlkD := (b, 109, rdr ⟨l.toArray⟩ false)
theorem own_ofL {H : Nat} {A w : World} {L : List BlkD} (h : Own H A L w) (s : ByteArray) (l : List UInt8) (hl : (⟨l.toArray⟩ : ByteArray) = s) :
    Calls Try.prog 50 #[.string s] w fun e w' => e = .returned (.pointer (some ⟨w.heap.size, 0, none⟩)) ∧ Own H A (rdL w.heap.size l :: L) w' := by
  go_enter Try.func50, Try.ntmps50
  go_wp2_with fail
  go_ret
  refine ⟨rfl, ?_⟩
  have := h.new 109 (rdr s false)
  unfold rdL
  rw [hl]
  exact this
theorem own_getL {H : Nat} {A w : World} {L L1 L2 : List BlkD} {b X k : Nat} {R : List UInt8} (h : Own H A L w) (hL : L = L1 ++ rdL b (le X k ++ R) :: L2) (h1 : 1 ≤ k) (h8 : k ≤ 8) (hX : X < 256 ^ k) (hR : R.length ≤ 900000) :
    Calls Try.prog 51 #[.pointer (some ⟨b, 0, none⟩), .int .i64 k] w fun e w' => e = .returned (.int .u64 X) ∧ Own H A (L1 ++ rdL b R :: L2) w' := by
  have hb : Blk w b 109 (rdr ⟨(le X k ++ R).toArray⟩ false) := h.all.mem (x := rdL b (le X k ++ R)) (by rw [hL]; simp)
  refine (reader_get X k R h1 h8 hX hR hb).mono ?_
  rintro e w' ⟨rfl, hU⟩
  exact ⟨rfl, h.put hL _ hU.grown hU.blk⟩
abbrev stB (X : Nat) (k n was is : Nat) : BlkD := (X, 44, #[.int .i64 k, .int .i64 n, .int .u32 was, .int .u32 is])
theorem read_post {R : Ending → World → Prop} {ac : Act} {w : World} {X k n was is : Nat} {v : Value} {x : Int} (h2 : ac.tmps[2]?.getD undef = .pointer (some ⟨X, 0, none⟩)) (h3 : ac.tmps[3]?.getD undef = v) (h4 : ac.tmps[4]?.getD undef = .int .i64 x) (hd : ac.defers = [])
    (hF : Blk w X 44 #[.int .i64 k, .int .i64 n, .int .u32 was, .int .u32 is]) (hR : R (.returned (.tuple #[streamV k n was is, v, .int .i64 x])) w) : bodyPost Try.prog Try.f36 R .ret ac w := by
  obtain ⟨tm, df⟩ := ac
  simp only at h2 h3 h4 hd
  have p0 := hF.cell 0
  have p1 := hF.cell 1
  have p2 := hF.cell 2
  have p3 := hF.cell 3
  exact bodyPost_ret (v := .tuple #[streamV k n was is, v, .int .i64 x]) (by simp [results, Try.results36, go_sem, h2, h3, h4, p0, p1, p2, p3]) hd hR
theorem read_shut (s : ByteArray) (w : World) (h : ∀ W : World, Calls Try.prog 49 #[.string s] W fun e w' => e = .returned (.tuple #[.string ⟨#[]⟩, .bool false]) ∧ Ext W w') :
    Calls Try.prog 36 #[.string s] w fun e w' => e = .returned (.tuple #[streamV 0 0 0 0, .slice none 0 0, .int .i64 3]) ∧ Ext w w' := by
  have O0 := (Own.start w).new 44 #[.int .i64 0, .int .i64 0, .int .u32 0, .int .u32 0]
  have H := Lib.hid h
  clear h
  go_enter Try.func36, Try.ntmps36
  go_wp2_with fail
  refine (H.out _).mono ?_
  rintro e w1 ⟨rfl, R1⟩
  have O1 := O0.ext R1
  clear O0 R1 H
  have hb := O1.all.1
  have q0 := hb.cell 0
  have q1 := hb.cell 1
  have q2 := hb.cell 2
  have q3 := hb.cell 3
  have f0 := hb.frozen 0
  have f1 := hb.frozen 1
  have f2 := hb.frozen 2
  have f3 := hb.frozen 3
  go_wp2_with fail
  have O2 := (((O1.set (L1 := []) rfl 0 (.int .i64 0)).set (L1 := []) rfl 1 (.int .i64 0)).set (L1 := []) rfl 2 (.int .u32 0)).set (L1 := []) rfl 3 (.int .u32 0)
  exact read_post (k := 0) (n := 0) (was := 0) (is := 0) (v := .slice none 0 0) (x := 3) rfl rfl rfl rfl O2.all.1 ⟨rfl, O2.below⟩
end Go.Proofs.Ytoiifcmjmjkcaaa

/- ship: read of a stream that was written; Look. -/
namespace Go.Proofs.Ytoiifcmjmjkcaaa
set_option linter.unusedVariables false
set_option linter.unusedSimpArgs false
open Go.RowKit

set_option maxRecDepth 100000 in
set_option maxHeartbeats 4000000 in
theorem read_any (k n was is : Nat) (L : List (Nat × ByteArray)) (len : Nat) (hlen : L.length = len) (s : ByteArray) (hd : s.data.toList = sealL (strL k n was is L)) (hk : k < 256) (hn : n ≤ 4096) (hwas : was < 4294967296) (his : is < 4294967296) (hl : len ≤ n) (hs : (extsL L).length ≤ 800000)
    (hx : ∀ x ∈ L, x.1 < 4294967296 ∧ x.2.size % 16 = 0 ∧ 1 ≤ x.2.size / 16 ∧ x.2.size / 16 ≤ n)
    (hgood : ∀ (W : World) (A : Option Addr) (cap : Nat), Row W A 2 xC L → Calls Try.prog 54 #[streamV k n was is, .slice A len cap] W fun e w' => e = .returned (.bool true) ∧ Ext W w') (wa : World) :
    Calls Try.prog 36 #[.string s] wa fun e w' => ∃ A cap, e = .returned (.tuple #[streamV k n was is, .slice A len cap, .int .i64 0]) ∧ Row w' A 2 xC L ∧ Ext wa w' := by
  obtain ⟨T, hT⟩ : ∃ T : ByteArray, (⟨(strL k n was is L).toArray⟩ : ByteArray) = T := ⟨_, rfl⟩
  have hsl : (strL k n was is L).length ≤ 800100 := by unfold strL; rw [List.length_append, strH_len]; omega
  have HO := Lib.hid (fun W => open_sealed (strL k n was is L) (by omega) s hd T hT W)
  have HG := Lib.hid hgood
  have heq := strL_eq k n was is L
  rw [hlen] at heq
  have HT : Hid ((⟨(le 83 1 ++ (le k 1 ++ (le n 4 ++ (le was 4 ++ (le is 4 ++ (le len 4 ++ extsL L)))))).toArray⟩ : ByteArray) = T) := by show _ = T; rw [← heq]; exact hT
  have un : IntKind.i64.wrap (n : Int) = (n : Int) := IntWalk.i64_in _ (by omega)
  have uk : IntKind.i64.wrap (k : Int) = (k : Int) := IntWalk.i64_in _ (by omega)
  have ul : IntKind.i64.wrap (len : Int) = (len : Int) := IntWalk.i64_in _ (by omega)
  have uw : IntKind.u32.wrap (was : Int) = (was : Int) := by simp [IntKind.wrap, IntKind.bits, IntKind.signed]; omega
  have ui : IntKind.u32.wrap (is : Int) = (is : Int) := by simp [IntKind.wrap, IntKind.bits, IntKind.signed]; omega
  have uw2 : (was : Int) % 4294967296 = (was : Int) := by omega
  have ui2 : (is : Int) % 4294967296 = (is : Int) := by omega
  have d1 : decide ((4096 : Int) < (n : Int)) = false := by rw [decide_eq_false_iff_not]; omega
  have d2 : decide ((n : Int) < (len : Int)) = false := by rw [decide_eq_false_iff_not]; omega
  have O0 := (Own.start wa).new 44 #[.int .i64 0, .int .i64 0, .int .u32 0, .int .u32 0]
  clear hd hT hsl hgood heq
  go_enter Try.func36, Try.ntmps36
  go_wp2_with fail
  refine (HO.out _).mono ?_
  rintro e w1 ⟨rfl, R1⟩
  have O1 := O0.ext R1
  clear O0 R1 HO
  go_wp2_with fail
  refine (own_ofL O1 T _ HT.out).mono ?_
  rintro e w2 ⟨rfl, O2⟩
  clear O1 HT
  go_wp2_with fail
  refine (own_getL O2 (L1 := []) (X := 83) (k := 1) rfl (by decide) (by decide) (by decide) (by simp only [List.length_append, le_length]; omega)).mono ?_
  rintro e w3 ⟨rfl, O3⟩
  clear O2
  go_wp2_with fail
  refine (own_getL O3 (L1 := []) (X := k) (k := 1) rfl (by decide) (by decide) (by omega) (by simp only [List.length_append, le_length]; omega)).mono ?_
  rintro e w4 ⟨rfl, O4⟩
  clear O3
  go_wp2_with fail
  refine (own_getL O4 (L1 := []) (X := n) (k := 4) rfl (by decide) (by decide) (by omega) (by simp only [List.length_append, le_length]; omega)).mono ?_
  rintro e w5 ⟨rfl, O5⟩
  clear O4
  have O6 : Own wa.heap.size wa [stB w5.heap.size k n 0 0, rdL w1.heap.size (le was 4 ++ (le is 4 ++ (le len 4 ++ extsL L))), stB wa.heap.size 0 0 0 0] (w5.alloc (.cells #[.int .i64 k, .int .i64 n, .int .u32 0, .int .u32 0] 44)) := O5.new _ _
  clear O5
  go_wp2_with fail
  refine (own_getL O6 (L1 := [stB w5.heap.size k n 0 0]) (X := was) (k := 4) rfl (by decide) (by decide) (by omega) (by simp only [List.length_append, le_length]; omega)).mono ?_
  rintro e w6 ⟨rfl, O7⟩
  clear O6
  have q2 := O7.all.1.cell 2
  have f2 := O7.all.1.frozen 2
  have O8 : Own wa.heap.size wa [stB w5.heap.size k n was 0, rdL w1.heap.size (le is 4 ++ (le len 4 ++ extsL L)), stB wa.heap.size 0 0 0 0] (w6.setCell ⟨w5.heap.size, 2, none⟩ (.int .u32 was)) := O7.set (L1 := []) rfl 2 (.int .u32 was)
  clear O7
  go_wp2_with fail
  clear q2 f2
  generalize w6.setCell ⟨w5.heap.size, 2, none⟩ (.int .u32 was) = w7 at O8 ⊢
  refine (own_getL O8 (L1 := [stB w5.heap.size k n was 0]) (X := is) (k := 4) rfl (by decide) (by decide) (by omega) (by simp only [List.length_append, le_length]; omega)).mono ?_
  rintro e w8 ⟨rfl, O9⟩
  clear O8
  have q3 := O9.all.1.cell 3
  have f3 := O9.all.1.frozen 3
  have O10 : Own wa.heap.size wa [stB w5.heap.size k n was is, rdL w1.heap.size (le len 4 ++ extsL L), stB wa.heap.size 0 0 0 0] (w8.setCell ⟨w5.heap.size, 3, none⟩ (.int .u32 is)) := O9.set (L1 := []) rfl 3 (.int .u32 is)
  clear O9
  go_wp2_with fail
  clear q3 f3
  generalize w8.setCell ⟨w5.heap.size, 3, none⟩ (.int .u32 is) = w9 at O10 ⊢
  refine (own_getL O10 (L1 := [stB w5.heap.size k n was is]) (X := len) (k := 4) rfl (by decide) (by decide) (by omega) (by omega)).mono ?_
  rintro e w10 ⟨rfl, O11⟩
  have O11 : Own wa.heap.size wa [stB w5.heap.size k n was is, rdL w1.heap.size (extsL L), stB wa.heap.size 0 0 0 0] w10 := O11
  clear O10
  have k1 := O11.all.1.cell 1
  have CE := extents_any w1.heap.size L len n w10 hlen (by omega) (by omega) hx (by omega) O11.all.2.1
  have HO11 := Lib.hid O11
  clear O11 uw ui uw2 ui2 uk
  go_wp2_with fail
  refine CE.mono ?_
  rintro e w11 ⟨A, cap, rfl, hrow, hU, hfar⟩
  have hza : wa.heap.size < w10.heap.size := HO11.out.all.2.2.1.lt
  have HFA : Hid (∀ a, A = some a → a.block ≠ wa.heap.size) := fun a ha => by have := hfar a ha; omega
  have O12 : Own wa.heap.size wa [stB w5.heap.size k n was is, rdL w1.heap.size [], stB wa.heap.size 0 0 0 0] w11 := HO11.out.put (L1 := [stB w5.heap.size k n was is]) rfl _ hU.grown hU.blk
  have CD := end_yes w1.heap.size ⟨#[]⟩ w11 O12.all.2.1 rfl
  have HO12 := Lib.hid O12
  have HRW := Lib.hid hrow
  clear CE HO11 hU k1 O12 hrow hfar hza
  go_wp2_with fail
  refine CD.mono ?_
  rintro e w12 ⟨rfl, rfl⟩
  have k0 := HO12.out.all.1.cell 0
  have k1 := HO12.out.all.1.cell 1
  have k2 := HO12.out.all.1.cell 2
  have k3 := HO12.out.all.1.cell 3
  clear CD
  go_wp2_with fail
  refine (HG.out _ _ _ HRW.out).mono ?_
  rintro e w13 ⟨rfl, R13⟩
  have O13 := HO12.out.ext R13
  have hrow13 := HRW.out.extx R13
  clear k0 k1 k2 k3 HG HO12 HRW
  have k0 := O13.all.1.cell 0
  have k1 := O13.all.1.cell 1
  have k2 := O13.all.1.cell 2
  have k3 := O13.all.1.cell 3
  have r0 := O13.all.2.2.1.cell 0
  have r1 := O13.all.2.2.1.cell 1
  have r2 := O13.all.2.2.1.cell 2
  have r3 := O13.all.2.2.1.cell 3
  have g0 := O13.all.2.2.1.frozen 0
  have g1 := O13.all.2.2.1.frozen 1
  have g2 := O13.all.2.2.1.frozen 2
  have g3 := O13.all.2.2.1.frozen 3
  have HR13 := Lib.hid hrow13
  clear hrow13
  go_wp2_with fail
  have O14 := (((O13.set (L1 := [_, _]) rfl 0 (.int .i64 k)).set (L1 := [_, _]) rfl 1 (.int .i64 n)).set (L1 := [_, _]) rfl 2 (.int .u32 was)).set (L1 := [_, _]) rfl 3 (.int .u32 is)
  have hr := (((HR13.out.farx (p := ⟨wa.heap.size, 0, none⟩) HFA.out (.int .i64 k)).farx (p := ⟨wa.heap.size, 1, none⟩) HFA.out (.int .i64 n)).farx (p := ⟨wa.heap.size, 2, none⟩) HFA.out (.int .u32 was)).farx (p := ⟨wa.heap.size, 3, none⟩) HFA.out (.int .u32 is)
  exact read_post (k := k) (n := n) (was := was) (is := is) (v := .slice A len cap) (x := 0) rfl rfl rfl rfl O14.all.2.2.1 ⟨A, cap, rfl, hr, O14.below⟩
end Go.Proofs.Ytoiifcmjmjkcaaa
