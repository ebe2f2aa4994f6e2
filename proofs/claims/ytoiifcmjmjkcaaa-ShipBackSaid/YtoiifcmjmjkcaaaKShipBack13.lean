/- tiercelaw30: awake. -/
import Derived.Test.YtoiifcmjmjkcaaaKShipBack10
import Derived.Laws.StructEq
namespace Go.Proofs.Ytoiifcmjmjkcaaa
set_option linter.unusedVariables false
set_option linter.unusedSimpArgs false
open Go.RowKit

/-- A sector of a byte. -/
def secT (b : UInt8) : ByteArray := ⟨(secL b).toArray⟩
theorem secT_size (b : UInt8) : (secT b).size = 16 := (List.size_toArray).trans (secL_len b)
theorem txt_next (f : Nat → UInt8) (n : Nat) (b : UInt8) (h : f n = b) : txt f n ++ secT b = txt f (n + 1) := by rw [← h]; exact txt_succ f n
theorem txt_zero (f : Nat → UInt8) : txt f 0 = ⟨#[]⟩ := rfl
/-- What the calls of diff make of texts of sectors. -/
theorem of_txt (f g : Nat → UInt8) (n : Nat) (hn : n ≤ 1000000) (w : World) :
    Calls Try.prog 10 #[.string (txt f n), .string (txt g n)] w fun e w' => ∃ A cap, e = .returned (.tuple #[.slice A (ofTo (txt f n) (txt g n) n).length cap, .int .i64 0]) ∧ Row w' A 2 xC (ofTo (txt f n) (txt g n) n) ∧ Ext w w' := by
  refine (of_same (txt f n) (txt g n) n w (txt_size f n) (txt_size g n) hn).mono ?_
  rintro e w' ⟨v, rfl, hX, hb⟩
  obtain ⟨A, cap, rfl, -, -, hrow⟩ := hX.rows
  exact ⟨A, cap, rfl, hrow, hb⟩
theorem apply_call (f g h : Nat → UInt8) (n : Nat) (hn : n ≤ 1000000) (q : ByteArray) (hq : txt (fun i => if g i = f i then h i else g i) n = q) (A : Option Addr) (len cap : Nat) (w : World) (hlen : (ofTo (txt f n) (txt g n) n).length = len) (hrow : Row w A 2 xC (ofTo (txt f n) (txt g n) n)) :
    Calls Try.prog 13 #[.string (txt h n), .slice A len cap] w fun e w' => e = .returned (.tuple #[.string q, .int .i64 0]) ∧ Ext w w' := by
  have hl := ofTo_len (txt f n) (txt g n) n
  have := dapply_any (txt h n) n A len cap (ofTo (txt f n) (txt g n) n) w (txt_size h n) hn hlen (by omega) hrow (bd_ofTo _ _ n (txt_size g n) hn) (good_ofTo _ _ n (txt_size g n)) (ofTo_bd _ _ n n (txt_size g n) (Nat.le_refl _)).1
  rw [apply_txt f g h n, hq] at this
  exact this
theorem good_call (f g : Nat → UInt8) (n : Nat) (hn : n ≤ 1000000) (A : Option Addr) (len cap : Nat) (w : World) (hlen : (ofTo (txt f n) (txt g n) n).length = len) (hrow : Row w A 2 xC (ofTo (txt f n) (txt g n) n)) :
    Calls Try.prog 12 #[.slice A len cap] w fun e w' => e = .returned (.bool true) ∧ Ext w w' := by
  have hl := ofTo_len (txt f n) (txt g n) n
  have := dgood_any A len cap (ofTo (txt f n) (txt g n) n) w hlen (by omega) hrow (bd_ofTo _ _ n (txt_size g n) hn)
  rw [good_ofTo _ _ n (txt_size g n)] at this
  exact this
theorem size_call (f g : Nat → UInt8) (n : Nat) (hn : n ≤ 1000000) (N : Nat) (hN : diffN f g n = N) (A : Option Addr) (len cap : Nat) (w : World) (hlen : (ofTo (txt f n) (txt g n) n).length = len) (hrow : Row w A 2 xC (ofTo (txt f n) (txt g n) n)) :
    Calls Try.prog 11 #[.slice A len cap] w fun e w' => e = .returned (.int .i64 N) ∧ Ext w w' := by
  have hl := ofTo_len (txt f n) (txt g n) n
  have hs : sumX (ofTo (txt f n) (txt g n) n) = N := by rw [sumX_ofTo _ _ n n (txt_size g n) (Nat.le_refl _), differN_txt f g n n (Nat.le_refl _), hN]
  have hle := diffN_le f g n
  have := dsize_any A len cap (ofTo (txt f n) (txt g n) n) w hlen (by omega) hrow (by omega)
  rw [hs] at this
  exact this
theorem sec_call (b : UInt8) (q : ByteArray) (hq : secT b = q) (x : Int) (hx : x = (b.toNat : Int)) (w : World) : Calls Try.prog 9 #[.int .u8 x] w fun e w' => e = .returned (.string q) ∧ Ext w w' := by
  subst hx hq
  exact sec_any b w

def fA (i : Nat) : UInt8 := [97, 98, 99].getD i 0
def fB (i : Nat) : UInt8 := [97, 120, 99].getD i 0
theorem of_AB : ofTo (txt fA 3) (txt fB 3) 3 = [(1, secT 120)] := by
  have h0 : secB (txt fB 3) 0 = secB (txt fA 3) 0 := (secB_eq fA fB 3 0 (by decide)).2 rfl
  have h1 : ¬ secB (txt fB 3) 1 = secB (txt fA 3) 1 := fun h => absurd ((secB_eq fA fB 3 1 (by decide)).1 h) (by decide)
  have h2 : secB (txt fB 3) 2 = secB (txt fA 3) 2 := (secB_eq fA fB 3 2 (by decide)).2 rfl
  rw [ofTo, if_pos h2, ofTo, if_neg h1, ofTo, if_pos h0, ofTo, laid_nil, secB_txt fB 3 1 (by decide)]
  rfl
theorem ext_fields : Try.prog.underlying 57 = some (.struct (Try.prog.fieldsOf 57)) := by kernel_rfl
theorem ext_held : Try.prog.stoodInHeld 57 = false := by kernel_rfl
theorem part_x0 (w : World) (x y : Value) : (part 3 #[x, y] 0).run Try.prog w = .ok x w := by kernel_rfl
theorem part_x1 (w : World) (x y : Value) : (part 9 #[x, y] 1).run Try.prog w = .ok y w := by kernel_rfl
theorem eq_ext (d : Nat) (a : Int) (s : ByteArray) (w : World) : (Op.equalIn (d + 2) 57 (.agg #[.int .i64 a, .string s]) (.agg #[.int .i64 a, .string s])).run Try.prog w = .ok true w := by
  have h0 := fun W x y => run_equalIn_int (P := Try.prog) W d 3 .i64 .i64 x y Try.underlying3
  have h1 := fun W x y => run_equalIn_string (P := Try.prog) W d 9 x y Try.underlying9
  rw [run_equalIn_struct w (d + 1) _ _ _ ext_fields ext_held]
  have hf : (Try.prog.fieldsOf 57).toList.map (fun f => (f.name, f.type, f.offset)) = [("At", 3, 0), ("Data", 9, 1)] := by kernel_rfl
  generalize (Try.prog.fieldsOf 57).toList = L at hf ⊢
  obtain ⟨f, g, rfl⟩ : ∃ f g, L = [f, g] := by
    rcases L with _ | ⟨f, _ | ⟨g, _ | ⟨h, L⟩⟩⟩
    · exact absurd (congrArg List.length hf) (by simp)
    · exact absurd (congrArg List.length hf) (by simp)
    · exact ⟨f, g, rfl⟩
    · exact absurd (congrArg List.length hf) (by simp)
  simp only [List.map_cons, List.map_nil, List.cons.injEq, Prod.mk.injEq, and_true] at hf
  obtain ⟨⟨n1, t1, o1⟩, n2, t2, o2⟩ := hf
  simp [Op.eqFields, n1, n2, t1, t2, o1, o2, Sem.run_bind, Sem.run_ite, part_x0, part_x1, h0, h1]
set_option maxRecDepth 100000 in
set_option maxHeartbeats 4000000 in
theorem awake30 (w : World) : Calls Try.prog 8 #[] w fun e w' => e = .returned (.bool true) ∧ Ext w w' := by
  obtain ⟨A1, hA1⟩ : ∃ q, secT 97 = q := ⟨_, rfl⟩
  obtain ⟨B1, hB1⟩ : ∃ q, secT 98 = q := ⟨_, rfl⟩
  obtain ⟨C1, hC1⟩ : ∃ q, secT 99 = q := ⟨_, rfl⟩
  obtain ⟨X1, hX1⟩ : ∃ q, secT 120 = q := ⟨_, rfl⟩
  have HA := Lib.hid (sec_call 97 A1 hA1 97 rfl)
  have HB := Lib.hid (sec_call 98 B1 hB1 98 rfl)
  have HC := Lib.hid (sec_call 99 C1 hC1 99 rfl)
  have HX := Lib.hid (sec_call 120 X1 hX1 120 rfl)
  have sA : A1.size = 16 := by rw [← hA1]; exact secT_size _
  have sB : B1.size = 16 := by rw [← hB1]; exact secT_size _
  have sC : C1.size = 16 := by rw [← hC1]; exact secT_size _
  have sX : X1.size = 16 := by rw [← hX1]; exact secT_size _
  obtain ⟨S, hS⟩ : ∃ q, A1 ++ B1 ++ C1 = q := ⟨_, rfl⟩
  obtain ⟨T, hT⟩ : ∃ q, A1 ++ X1 ++ C1 = q := ⟨_, rfl⟩
  have eS : S = txt fA 3 := by
    rw [← hS, ← hA1, ← hB1, ← hC1, ← txt_next fA 2 99 rfl, ← txt_next fA 1 98 rfl, ← txt_next fA 0 97 rfl, txt_zero]
    rfl
  have eT : T = txt fB 3 := by
    rw [← hT, ← hA1, ← hX1, ← hC1, ← txt_next fB 2 99 rfl, ← txt_next fB 1 120 rfl, ← txt_next fB 0 97 rfl, txt_zero]
    rfl
  have sS : S.size = 48 := by rw [eS]; exact txt_size _ _
  have HOF := Lib.hid (fun W => of_txt fA fB 3 (by decide) W)
  have hap : txt (fun i => if fB i = fA i then fA i else fB i) 3 = T := by
    rw [eT, txt_eq]
    intro j hj
    rcases (show j = 0 ∨ j = 1 ∨ j = 2 by omega) with rfl | rfl | rfl <;> rfl
  have HAP := Lib.hid (fun W A c => apply_call fA fB fA 3 (by decide) T hap A 1 c W (by rw [of_AB]; rfl))
  have HGD := Lib.hid (fun W A c => good_call fA fB 3 (by decide) A 1 c W (by rw [of_AB]; rfl))
  have HSZ := Lib.hid (fun W A c => size_call fA fB 3 (by decide) 1 (by decide) A 1 c W (by rw [of_AB]; rfl))
  have HBD := Lib.hid (fun W => of_bad S ⟨#[]⟩ W (.inl (by rw [sS]; decide)) (by decide))
  rw [of_AB] at HOF HAP HGD HSZ
  rw [← eS] at HOF HAP
  rw [← eT] at HOF
  rw [hX1] at HOF HAP HGD HSZ
  clear hA1 hB1 hC1 hX1 eS eT hap
  go_enter Try.func8, Try.ntmps8
  go_wp2_with fail
  refine (HA.out _).mono ?_
  rintro e w1 ⟨rfl, R1⟩
  go_wp2_with fail
  refine (HB.out _).mono ?_
  rintro e w2 ⟨rfl, R2⟩
  go_wp2_with fail
  refine (HC.out _).mono ?_
  rintro e w3 ⟨rfl, R3⟩
  go_wp2_with fail
  refine (HA.out _).mono ?_
  rintro e w4 ⟨rfl, R4⟩
  go_wp2_with fail
  refine (HX.out _).mono ?_
  rintro e w5 ⟨rfl, R5⟩
  go_wp2_with fail
  refine (HC.out _).mono ?_
  rintro e w6 ⟨rfl, R6⟩
  have hE6 := ((((R1.trans R2).trans R3).trans R4).trans R5).trans R6
  clear R1 R2 R3 R4 R5 R6
  go_wp2_with fail
  refine (HOF.out _).mono ?_
  rintro e w7 ⟨A, cap, rfl, hrow, R7⟩
  rw [show ([(1, X1)] : List (Nat × ByteArray)).length = 1 from rfl]
  go_wp2_with fail
  refine (HAP.out _ A cap hrow).mono ?_
  rintro e w8 ⟨rfl, R8⟩
  go_wp2_with fail
  refine (HBD.out _).mono ?_
  rintro e w9 ⟨rfl, R9⟩
  have hrow9 := (hrow.extx R8).extx R9
  have hE9 := ((hE6.trans R7).trans R8).trans R9
  obtain ⟨b0, o0, rfl, hlt0⟩ := hrow9.x_in (Ext.refl _) (show 0 < 1 by decide)
  have HC0 := Lib.hid (fun (W : World) (h : Ext w9 W) => hrow9.x_at h (show 0 < 1 by decide))
  have HRW := Lib.hid (fun (W : World) (h : Ext w9 W) => hrow9.extx h)
  have heq := fun W => eq_ext 9997 1 X1 W
  have hTT : (T.toList == T.toList) = true := by simp
  clear R7 R8 R9 hrow hrow9 hE6 HA HB HC HOF HAP HBD hS hT
  go_upto_region 8 with fail
  refine wp_typed (R := Ext) (w0 := w9) [[], [0], [0, 1], [0, 1, 2], [0, 1, 2, 3], [0, 1, 2, 3, 4], [0, 1, 2], [0, 1, 2, 6], [0, 1, 2, 3, 4, 5, 6, 7], [0, 1, 2, 3, 4, 5, 6, 7, 8], [0, 1, 2, 3, 4, 5, 6, 7, 8, 9], [0, 1, 2, 3, 4, 5, 6, 7, 8, 9, 10], [0, 1, 2, 3, 4, 5, 6, 7, 8, 9, 10], [0, 1, 2, 3, 4, 5, 6, 7, 8, 9, 10, 11, 12], [0, 1, 2, 3, 4, 5, 6, 7, 8, 9, 10, 11, 12, 13], [0, 1, 2, 3, 4, 5, 6, 7, 8, 9, 10, 11, 12, 13, 14], [0, 1, 2, 3, 4, 5, 6, 7, 8, 9, 10, 11, 12, 13, 14, 15], [0, 1, 2, 3, 4, 5, 6, 7, 8, 9, 10, 11, 12, 13, 14, 15, 16], [0, 1, 2, 3, 4, 5, 6, 7, 8, 9, 10, 11, 12, 13, 14, 15, 16, 17], [0, 1, 2, 3, 4, 5, 6, 7, 8, 9, 10, 11, 12, 13, 14, 15, 16, 17, 18], [0, 1, 2, 3, 4, 5, 6, 7, 8, 9, 10, 11, 12, 13, 14, 15, 16, 17, 18, 19], [0, 1, 2, 3, 4, 5, 6, 7, 8, 9, 10, 11, 12, 13, 14, 15, 16, 17, 18, 19, 20], [0, 1, 2, 3, 4, 5, 6, 7, 8, 9, 10, 11, 12, 13, 14, 15, 16, 17, 18, 19, 20, 21], [0, 1, 2, 3, 4, 5, 6, 7, 8, 9, 10, 11, 12, 13, 14, 15, 16, 17, 18, 19, 20, 21, 22], [0, 1, 2, 3, 4, 5, 6, 7, 8, 9, 10, 11, 12, 13, 14, 15, 16, 17, 18, 19, 20, 21, 22, 23], [0, 1, 2, 3, 4, 5, 6, 7, 8, 9, 10, 11, 12, 13, 14, 15, 16, 17, 18, 19, 20, 21, 22, 23, 24], [0, 1, 2, 3, 4, 5, 6, 7, 8, 9, 10, 11, 12, 13, 14, 15, 16, 17, 18, 19, 20, 21, 22, 23, 24, 25], [0, 1, 2, 3, 4, 5, 6, 7, 8, 9, 10, 11, 12, 13, 14, 15, 16, 17, 18, 19, 20, 21, 22, 23, 24, 25, 26], [0, 1, 2, 3, 4, 5, 6, 7, 8, 9, 10, 11, 12, 13, 14, 15, 16, 17, 18, 19, 20, 21, 22, 23, 24, 25, 26, 27], [0, 1, 2, 3, 4, 5, 6, 7, 8, 9, 10, 11, 12, 13, 14, 15, 16, 17, 18, 19, 20, 21, 22, 23, 24, 25, 26, 27, 28], [0, 1, 2, 3, 4, 5, 6, 7, 8, 9, 10, 11, 12, 13, 14, 15, 16, 17, 18, 19, 20, 21, 22, 23, 24, 25, 26, 27, 28, 29], [0, 1, 2, 3, 4, 5, 6, 7, 8, 9, 10, 11, 12, 13, 14, 15, 16, 17, 18, 19, 20, 21, 22, 23, 24, 25, 26, 27, 28, 29, 30], [0, 1, 2, 3, 4, 5, 6, 7, 8, 9, 10, 11, 12, 13, 14, 15, 16, 17, 18, 19, 20, 21, 22, 23, 24, 25, 26, 27, 28, 29, 30, 31]] [39, 40, 41, 42, 43, 44, 45, 46, 47, 48, 49, 50, 51, 52, 53, 54, 55, 56, 57, 58, 59, 60, 61, 62, 63, 64, 65, 66, 67, 68, 69, 70, 0] Ext.refl (fun _ _ _ => Ext.trans) (Ext.drew _) (by kernel_rfl) ?_
  apply Build.det 39 Ext.refl (by rfl) (by rfl) rfl
  case h =>   -- 0: t39 := Op.move (tmp 4)
    intro ax wx hE hR hF
    have e4 : ax.eval (.tmp 4) = .int .i64 0 := hE.eval 4 (by rfl) rfl
    simp [go_sem, BigFrame.eval_const, BigFrame.eval_global, BigFrame.eval_func, ↓IntWalk.iteOmega, ev e4]
    with_reducible rfl
  apply Build.det 40 Ext.refl (by rfl) (by rfl) rfl
  case h =>   -- 1: t40 := Op.binOp BinOp.eql 26 (tmp 39) (const (Value.int IntKind.i64 0)) 26
    intro ax wx hE hR hF
    have e39 : ax.eval (.tmp 39) = _ := hF 0 (det 39 _) (by decide) (.head _)
    simp [go_sem, BigFrame.eval_const, BigFrame.eval_global, BigFrame.eval_func, ↓IntWalk.iteOmega, ev e39]
    with_reducible rfl
  apply Build.det 41 Ext.refl (by rfl) (by rfl) rfl
  case h =>   -- 2: t41 := Op.move (tmp 40)
    intro ax wx hE hR hF
    have e40 : ax.eval (.tmp 40) = _ := hF 1 (det 40 _) (by decide) (.head _)
    simp [go_sem, BigFrame.eval_const, BigFrame.eval_global, BigFrame.eval_func, ↓IntWalk.iteOmega, ev e40]
    with_reducible rfl
  apply Build.detg 42 Ext.refl (by rfl) (by rfl) rfl rfl
  case h =>   -- 3: t42 := Op.move (tmp 3)
    intro ax wx hE hR hF
    have e3 : ax.eval (.tmp 3) = .slice (some ⟨b0, o0, none⟩) 1 cap := hE.eval 3 (by rfl) rfl
    have e41 : ax.eval (.tmp 41) = _ := hF 2 (det 41 _) (by decide) (.head _)
    refine ⟨e41, ?_⟩
    simp [go_sem, BigFrame.eval_const, BigFrame.eval_global, BigFrame.eval_func, ↓IntWalk.iteOmega, ev e3, ev e41]
    with_reducible rfl
  apply Build.detg 43 Ext.refl (by rfl) (by rfl) rfl rfl
  case h =>   -- 4: t43 := Op.indexAddr 25 (tmp 42) (const (Value.int IntKind.i64 0))
    intro ax wx hE hR hF
    have e41 : ax.eval (.tmp 41) = _ := hF 2 (det 41 _) (by decide) (.tail _ (.head _))
    have e42 : ax.eval (.tmp 42) = _ := hF 3 (det 42 _) (by decide) (.head _)
    refine ⟨e41, ?_⟩
    simp [go_sem, BigFrame.eval_const, BigFrame.eval_global, BigFrame.eval_func, ↓IntWalk.iteOmega, ev e41, ev e42]
    with_reducible rfl
  apply Build.detg 44 Ext.refl (by rfl) (by rfl) rfl rfl
  case h =>   -- 5: t44 := Op.load 57 (tmp 43)
    intro ax wx hE hR hF
    have e41 : ax.eval (.tmp 41) = _ := hF 2 (det 41 _) (by decide) (.tail _ (.tail _ (.head _)))
    have e43 : ax.eval (.tmp 43) = _ := hF 4 (det 43 _) (by decide) (.head _)
    obtain ⟨p0, p1⟩ := HC0.out _ hR; rw [Nat.zero_mul, Nat.add_zero] at p0 p1; simp only [atX, datX, List.getD_cons_zero] at p0 p1
    refine ⟨e41, ?_⟩
    simp [go_sem, BigFrame.eval_const, BigFrame.eval_global, BigFrame.eval_func, ↓IntWalk.iteOmega, ev e41, ev e43, p0, p1]
    with_reducible rfl
  apply Build.callg 45 Ext.refl (by rfl) (by rfl) rfl rfl
  case h =>
    intro ax wx hE hR hF
    have e41 : ax.eval (.tmp 41) = _ := hF 2 (det 41 _) (by decide) (.tail _ (.tail _ (.tail _ (.head _))))
    refine ⟨e41, ?_⟩
    simp [go_sem, BigFrame.eval_const, BigFrame.eval_global, BigFrame.eval_func, ↓IntWalk.iteOmega, ev e41]
    with_reducible exact ⟨rfl, rfl⟩
  case hc => intro wx hR; with_reducible exact HX.out wx
  apply Build.detg 46 Ext.refl (by rfl) (by rfl) rfl rfl
  case h =>   -- 7: t46 := Op.build 57 #[(0, const (Value.int IntKind.i64 1)), (1, tmp 45)]
    intro ax wx hE hR hF
    have e41 : ax.eval (.tmp 41) = _ := hF 2 (det 41 _) (by decide) (mem4 (.head _))
    have e45 : ax.eval (.tmp 45) = _ := hF 6 (det 45 _) (by decide) (.head _)
    refine ⟨e41, ?_⟩
    simp [go_sem, BigFrame.eval_const, BigFrame.eval_global, BigFrame.eval_func, ↓IntWalk.iteOmega, ev e41, ev e45]
    with_reducible rfl
  apply Build.detg 47 Ext.refl (by rfl) (by rfl) rfl rfl
  case h =>   -- 8: t47 := Op.binOp BinOp.eql 57 (tmp 44) (tmp 46) 57
    intro ax wx hE hR hF
    have e41 : ax.eval (.tmp 41) = _ := hF 2 (det 41 _) (by decide) (mem4 (.tail _ (.head _)))
    have e44 : ax.eval (.tmp 44) = _ := hF 5 (det 44 _) (by decide) (.tail _ (.tail _ (.head _)))
    have e46 : ax.eval (.tmp 46) = _ := hF 7 (det 46 _) (by decide) (.head _)
    refine ⟨e41, ?_⟩
    simp [go_sem, BigFrame.eval_const, BigFrame.eval_global, BigFrame.eval_func, ↓IntWalk.iteOmega, ev e41, ev e44, ev e46, heq]
    with_reducible rfl
  apply Build.det 48 Ext.refl (by rfl) (by rfl) rfl
  case h =>   -- 9: t48 := Op.pick (tmp 41) (tmp 47) (const (Value.bool false))
    intro ax wx hE hR hF
    have e41 : ax.eval (.tmp 41) = _ := hF 2 (det 41 _) (by decide) (mem4 (.tail _ (.tail _ (.head _))))
    have e47 : ax.eval (.tmp 47) = _ := hF 8 (det 47 _) (by decide) (.head _)
    simp [go_sem, BigFrame.eval_const, BigFrame.eval_global, BigFrame.eval_func, ↓IntWalk.iteOmega, ev e41, ev e47]
    with_reducible rfl
  apply Build.det 49 Ext.refl (by rfl) (by rfl) rfl
  case h =>   -- 10: t49 := Op.move (tmp 48)
    intro ax wx hE hR hF
    have e48 : ax.eval (.tmp 48) = _ := hF 9 (det 48 _) (by decide) (.head _)
    simp [go_sem, BigFrame.eval_const, BigFrame.eval_global, BigFrame.eval_func, ↓IntWalk.iteOmega, ev e48]
    with_reducible rfl
  apply Build.detg 50 Ext.refl (by rfl) (by rfl) rfl rfl
  case h =>   -- 11: t50 := Op.move (tmp 5)
    intro ax wx hE hR hF
    have e5 : ax.eval (.tmp 5) = .string T := hE.eval 5 (by rfl) rfl
    have e49 : ax.eval (.tmp 49) = _ := hF 10 (det 49 _) (by decide) (.head _)
    refine ⟨e49, ?_⟩
    simp [go_sem, BigFrame.eval_const, BigFrame.eval_global, BigFrame.eval_func, ↓IntWalk.iteOmega, ev e5, ev e49]
    with_reducible rfl
  apply Build.detg 51 Ext.refl (by rfl) (by rfl) rfl rfl
  case h =>   -- 12: t51 := Op.move (tmp 2)
    intro ax wx hE hR hF
    have e2 : ax.eval (.tmp 2) = .string T := hE.eval 2 (by rfl) rfl
    have e49 : ax.eval (.tmp 49) = _ := hF 10 (det 49 _) (by decide) (.tail _ (.head _))
    refine ⟨e49, ?_⟩
    simp [go_sem, BigFrame.eval_const, BigFrame.eval_global, BigFrame.eval_func, ↓IntWalk.iteOmega, ev e2, ev e49]
    with_reducible rfl
  apply Build.detg 52 Ext.refl (by rfl) (by rfl) rfl rfl
  case h =>   -- 13: t52 := Op.binOp BinOp.eql 9 (tmp 50) (tmp 51) 9
    intro ax wx hE hR hF
    have e49 : ax.eval (.tmp 49) = _ := hF 10 (det 49 _) (by decide) (.tail _ (.tail _ (.head _)))
    have e50 : ax.eval (.tmp 50) = _ := hF 11 (det 50 _) (by decide) (.tail _ (.head _))
    have e51 : ax.eval (.tmp 51) = _ := hF 12 (det 51 _) (by decide) (.head _)
    refine ⟨e49, ?_⟩
    simp [go_sem, BigFrame.eval_const, BigFrame.eval_global, BigFrame.eval_func, ↓IntWalk.iteOmega, ev e49, ev e50, ev e51]
    with_reducible rfl
  apply Build.det 53 Ext.refl (by rfl) (by rfl) rfl
  case h =>   -- 14: t53 := Op.pick (tmp 49) (tmp 52) (const (Value.bool false))
    intro ax wx hE hR hF
    have e49 : ax.eval (.tmp 49) = _ := hF 10 (det 49 _) (by decide) (.tail _ (.tail _ (.tail _ (.head _))))
    have e52 : ax.eval (.tmp 52) = _ := hF 13 (det 52 _) (by decide) (.head _)
    simp [go_sem, BigFrame.eval_const, BigFrame.eval_global, BigFrame.eval_func, ↓IntWalk.iteOmega, ev e49, ev e52]
    with_reducible rfl
  apply Build.det 54 Ext.refl (by rfl) (by rfl) rfl
  case h =>   -- 15: t54 := Op.move (tmp 53)
    intro ax wx hE hR hF
    have e53 : ax.eval (.tmp 53) = _ := hF 14 (det 53 _) (by decide) (.head _)
    simp [go_sem, BigFrame.eval_const, BigFrame.eval_global, BigFrame.eval_func, ↓IntWalk.iteOmega, ev e53]
    with_reducible rfl
  apply Build.detg 55 Ext.refl (by rfl) (by rfl) rfl rfl
  case h =>   -- 16: t55 := Op.move (tmp 6)
    intro ax wx hE hR hF
    have e6 : ax.eval (.tmp 6) = .int .i64 0 := hE.eval 6 (by rfl) rfl
    have e54 : ax.eval (.tmp 54) = _ := hF 15 (det 54 _) (by decide) (.head _)
    refine ⟨e54, ?_⟩
    simp [go_sem, BigFrame.eval_const, BigFrame.eval_global, BigFrame.eval_func, ↓IntWalk.iteOmega, ev e6, ev e54]
    with_reducible rfl
  apply Build.detg 56 Ext.refl (by rfl) (by rfl) rfl rfl
  case h =>   -- 17: t56 := Op.binOp BinOp.eql 26 (tmp 55) (const (Value.int IntKind.i64 0)) 26
    intro ax wx hE hR hF
    have e54 : ax.eval (.tmp 54) = _ := hF 15 (det 54 _) (by decide) (.tail _ (.head _))
    have e55 : ax.eval (.tmp 55) = _ := hF 16 (det 55 _) (by decide) (.head _)
    refine ⟨e54, ?_⟩
    simp [go_sem, BigFrame.eval_const, BigFrame.eval_global, BigFrame.eval_func, ↓IntWalk.iteOmega, ev e54, ev e55]
    with_reducible rfl
  apply Build.det 57 Ext.refl (by rfl) (by rfl) rfl
  case h =>   -- 18: t57 := Op.pick (tmp 54) (tmp 56) (const (Value.bool false))
    intro ax wx hE hR hF
    have e54 : ax.eval (.tmp 54) = _ := hF 15 (det 54 _) (by decide) (.tail _ (.tail _ (.head _)))
    have e56 : ax.eval (.tmp 56) = _ := hF 17 (det 56 _) (by decide) (.head _)
    simp [go_sem, BigFrame.eval_const, BigFrame.eval_global, BigFrame.eval_func, ↓IntWalk.iteOmega, ev e54, ev e56]
    with_reducible rfl
  apply Build.det 58 Ext.refl (by rfl) (by rfl) rfl
  case h =>   -- 19: t58 := Op.move (tmp 57)
    intro ax wx hE hR hF
    have e57 : ax.eval (.tmp 57) = _ := hF 18 (det 57 _) (by decide) (.head _)
    simp [go_sem, BigFrame.eval_const, BigFrame.eval_global, BigFrame.eval_func, ↓IntWalk.iteOmega, ev e57]
    with_reducible rfl
  apply Build.detg 59 Ext.refl (by rfl) (by rfl) rfl rfl
  case h =>   -- 20: t59 := Op.move (tmp 8)
    intro ax wx hE hR hF
    have e8 : ax.eval (.tmp 8) = .int .i64 1 := hE.eval 8 (by rfl) rfl
    have e58 : ax.eval (.tmp 58) = _ := hF 19 (det 58 _) (by decide) (.head _)
    refine ⟨e58, ?_⟩
    simp [go_sem, BigFrame.eval_const, BigFrame.eval_global, BigFrame.eval_func, ↓IntWalk.iteOmega, ev e8, ev e58]
    with_reducible rfl
  apply Build.detg 60 Ext.refl (by rfl) (by rfl) rfl rfl
  case h =>   -- 21: t60 := Op.binOp BinOp.eql 26 (tmp 59) (const (Value.int IntKind.i64 1)) 26
    intro ax wx hE hR hF
    have e58 : ax.eval (.tmp 58) = _ := hF 19 (det 58 _) (by decide) (.tail _ (.head _))
    have e59 : ax.eval (.tmp 59) = _ := hF 20 (det 59 _) (by decide) (.head _)
    refine ⟨e58, ?_⟩
    simp [go_sem, BigFrame.eval_const, BigFrame.eval_global, BigFrame.eval_func, ↓IntWalk.iteOmega, ev e58, ev e59]
    with_reducible rfl
  apply Build.det 61 Ext.refl (by rfl) (by rfl) rfl
  case h =>   -- 22: t61 := Op.pick (tmp 58) (tmp 60) (const (Value.bool false))
    intro ax wx hE hR hF
    have e58 : ax.eval (.tmp 58) = _ := hF 19 (det 58 _) (by decide) (.tail _ (.tail _ (.head _)))
    have e60 : ax.eval (.tmp 60) = _ := hF 21 (det 60 _) (by decide) (.head _)
    simp [go_sem, BigFrame.eval_const, BigFrame.eval_global, BigFrame.eval_func, ↓IntWalk.iteOmega, ev e58, ev e60]
    with_reducible rfl
  apply Build.det 62 Ext.refl (by rfl) (by rfl) rfl
  case h =>   -- 23: t62 := Op.move (tmp 61)
    intro ax wx hE hR hF
    have e61 : ax.eval (.tmp 61) = _ := hF 22 (det 61 _) (by decide) (.head _)
    simp [go_sem, BigFrame.eval_const, BigFrame.eval_global, BigFrame.eval_func, ↓IntWalk.iteOmega, ev e61]
    with_reducible rfl
  apply Build.detg 63 Ext.refl (by rfl) (by rfl) rfl rfl
  case h =>   -- 24: t63 := Op.move (tmp 3)
    intro ax wx hE hR hF
    have e3 : ax.eval (.tmp 3) = .slice (some ⟨b0, o0, none⟩) 1 cap := hE.eval 3 (by rfl) rfl
    have e62 : ax.eval (.tmp 62) = _ := hF 23 (det 62 _) (by decide) (.head _)
    refine ⟨e62, ?_⟩
    simp [go_sem, BigFrame.eval_const, BigFrame.eval_global, BigFrame.eval_func, ↓IntWalk.iteOmega, ev e3, ev e62]
    with_reducible rfl
  apply Build.callg 64 Ext.refl (by rfl) (by rfl) rfl rfl
  case h =>
    intro ax wx hE hR hF
    have e62 : ax.eval (.tmp 62) = _ := hF 23 (det 62 _) (by decide) (.tail _ (.head _))
    have e63 : ax.eval (.tmp 63) = _ := hF 24 (det 63 _) (by decide) (.head _)
    refine ⟨e62, ?_⟩
    simp [go_sem, BigFrame.eval_const, BigFrame.eval_global, BigFrame.eval_func, ↓IntWalk.iteOmega, ev e62, ev e63]
    with_reducible exact ⟨rfl, rfl⟩
  case hc => intro wx hR; with_reducible exact HSZ.out wx _ _ (HRW.out wx hR)
  apply Build.detg 65 Ext.refl (by rfl) (by rfl) rfl rfl
  case h =>   -- 26: t65 := Op.binOp BinOp.eql 3 (tmp 64) (const (Value.int IntKind.i64 1)) 3
    intro ax wx hE hR hF
    have e62 : ax.eval (.tmp 62) = _ := hF 23 (det 62 _) (by decide) (.tail _ (.tail _ (.head _)))
    have e64 : ax.eval (.tmp 64) = _ := hF 25 (det 64 _) (by decide) (.head _)
    refine ⟨e62, ?_⟩
    simp [go_sem, BigFrame.eval_const, BigFrame.eval_global, BigFrame.eval_func, ↓IntWalk.iteOmega, ev e62, ev e64]
    with_reducible rfl
  apply Build.det 66 Ext.refl (by rfl) (by rfl) rfl
  case h =>   -- 27: t66 := Op.pick (tmp 62) (tmp 65) (const (Value.bool false))
    intro ax wx hE hR hF
    have e62 : ax.eval (.tmp 62) = _ := hF 23 (det 62 _) (by decide) (.tail _ (.tail _ (.tail _ (.head _))))
    have e65 : ax.eval (.tmp 65) = _ := hF 26 (det 65 _) (by decide) (.head _)
    simp [go_sem, BigFrame.eval_const, BigFrame.eval_global, BigFrame.eval_func, ↓IntWalk.iteOmega, ev e62, ev e65]
    with_reducible rfl
  apply Build.det 67 Ext.refl (by rfl) (by rfl) rfl
  case h =>   -- 28: t67 := Op.move (tmp 66)
    intro ax wx hE hR hF
    have e66 : ax.eval (.tmp 66) = _ := hF 27 (det 66 _) (by decide) (.head _)
    simp [go_sem, BigFrame.eval_const, BigFrame.eval_global, BigFrame.eval_func, ↓IntWalk.iteOmega, ev e66]
    with_reducible rfl
  apply Build.detg 68 Ext.refl (by rfl) (by rfl) rfl rfl
  case h =>   -- 29: t68 := Op.move (tmp 3)
    intro ax wx hE hR hF
    have e3 : ax.eval (.tmp 3) = .slice (some ⟨b0, o0, none⟩) 1 cap := hE.eval 3 (by rfl) rfl
    have e67 : ax.eval (.tmp 67) = _ := hF 28 (det 67 _) (by decide) (.head _)
    refine ⟨e67, ?_⟩
    simp [go_sem, BigFrame.eval_const, BigFrame.eval_global, BigFrame.eval_func, ↓IntWalk.iteOmega, ev e3, ev e67]
    with_reducible rfl
  apply Build.callg 69 Ext.refl (by rfl) (by rfl) rfl rfl
  case h =>
    intro ax wx hE hR hF
    have e67 : ax.eval (.tmp 67) = _ := hF 28 (det 67 _) (by decide) (.tail _ (.head _))
    have e68 : ax.eval (.tmp 68) = _ := hF 29 (det 68 _) (by decide) (.head _)
    refine ⟨e67, ?_⟩
    simp [go_sem, BigFrame.eval_const, BigFrame.eval_global, BigFrame.eval_func, ↓IntWalk.iteOmega, ev e67, ev e68]
    with_reducible exact ⟨rfl, rfl⟩
  case hc => intro wx hR; with_reducible exact HGD.out wx _ _ (HRW.out wx hR)
  apply Build.det 70 Ext.refl (by rfl) (by rfl) rfl
  case h =>   -- 31: t70 := Op.pick (tmp 67) (tmp 69) (const (Value.bool false))
    intro ax wx hE hR hF
    have e67 : ax.eval (.tmp 67) = _ := hF 28 (det 67 _) (by decide) (.tail _ (.tail _ (.head _)))
    have e69 : ax.eval (.tmp 69) = _ := hF 30 (det 69 _) (by decide) (.head _)
    simp [go_sem, BigFrame.eval_const, BigFrame.eval_global, BigFrame.eval_func, ↓IntWalk.iteOmega, ev e67, ev e69]
    with_reducible rfl
  apply Build.det 0 Ext.refl (by rfl) (by rfl) rfl
  case h =>   -- 32: t0 := Op.assign (tmp 70)
    intro ax wx hE hR hF
    have e70 : ax.eval (.tmp 70) = _ := hF 31 (det 70 _) (by decide) (.head _)
    simp [go_sem, BigFrame.eval_const, BigFrame.eval_global, BigFrame.eval_func, ↓IntWalk.iteOmega, ev e70]
    with_reducible rfl
  apply Build.stop
  refine ⟨by kernel_rfl, .inl ⟨rfl, ?_⟩⟩
  intro ax w10 hE R10 hF
  have e39 : ax.eval (.tmp 39) = _ := hF 0 (det 39 _) (mem16 (mem16 (.head _)))
  have e40 : ax.eval (.tmp 40) = _ := hF 1 (det 40 _) (mem16 (mem4 (mem4 (mem4 (.tail _ (.tail _ (.tail _ (.head _))))))))
  have e41 : ax.eval (.tmp 41) = _ := hF 2 (det 41 _) (mem16 (mem4 (mem4 (mem4 (.tail _ (.tail _ (.head _)))))))
  have e42 : ax.eval (.tmp 42) = _ := hF 3 (det 42 _) (mem16 (mem4 (mem4 (mem4 (.tail _ (.head _))))))
  have e43 : ax.eval (.tmp 43) = _ := hF 4 (det 43 _) (mem16 (mem4 (mem4 (mem4 (.head _)))))
  have e44 : ax.eval (.tmp 44) = _ := hF 5 (det 44 _) (mem16 (mem4 (mem4 (.tail _ (.tail _ (.tail _ (.head _)))))))
  have e45 : ax.eval (.tmp 45) = _ := hF 6 (det 45 _) (mem16 (mem4 (mem4 (.tail _ (.tail _ (.head _))))))
  have e46 : ax.eval (.tmp 46) = _ := hF 7 (det 46 _) (mem16 (mem4 (mem4 (.tail _ (.head _)))))
  have e47 : ax.eval (.tmp 47) = _ := hF 8 (det 47 _) (mem16 (mem4 (mem4 (.head _))))
  have e48 : ax.eval (.tmp 48) = _ := hF 9 (det 48 _) (mem16 (mem4 (.tail _ (.tail _ (.tail _ (.head _))))))
  have e49 : ax.eval (.tmp 49) = _ := hF 10 (det 49 _) (mem16 (mem4 (.tail _ (.tail _ (.head _)))))
  have e50 : ax.eval (.tmp 50) = _ := hF 11 (det 50 _) (mem16 (mem4 (.tail _ (.head _))))
  have e51 : ax.eval (.tmp 51) = _ := hF 12 (det 51 _) (mem16 (mem4 (.head _)))
  have e52 : ax.eval (.tmp 52) = _ := hF 13 (det 52 _) (mem16 (.tail _ (.tail _ (.tail _ (.head _)))))
  have e53 : ax.eval (.tmp 53) = _ := hF 14 (det 53 _) (mem16 (.tail _ (.tail _ (.head _))))
  have e54 : ax.eval (.tmp 54) = _ := hF 15 (det 54 _) (mem16 (.tail _ (.head _)))
  have e55 : ax.eval (.tmp 55) = _ := hF 16 (det 55 _) (mem16 (.head _))
  have e56 : ax.eval (.tmp 56) = _ := hF 17 (det 56 _) (mem4 (mem4 (mem4 (.tail _ (.tail _ (.tail _ (.head _)))))))
  have e57 : ax.eval (.tmp 57) = _ := hF 18 (det 57 _) (mem4 (mem4 (mem4 (.tail _ (.tail _ (.head _))))))
  have e58 : ax.eval (.tmp 58) = _ := hF 19 (det 58 _) (mem4 (mem4 (mem4 (.tail _ (.head _)))))
  have e59 : ax.eval (.tmp 59) = _ := hF 20 (det 59 _) (mem4 (mem4 (mem4 (.head _))))
  have e60 : ax.eval (.tmp 60) = _ := hF 21 (det 60 _) (mem4 (mem4 (.tail _ (.tail _ (.tail _ (.head _))))))
  have e61 : ax.eval (.tmp 61) = _ := hF 22 (det 61 _) (mem4 (mem4 (.tail _ (.tail _ (.head _)))))
  have e62 : ax.eval (.tmp 62) = _ := hF 23 (det 62 _) (mem4 (mem4 (.tail _ (.head _))))
  have e63 : ax.eval (.tmp 63) = _ := hF 24 (det 63 _) (mem4 (mem4 (.head _)))
  have e64 : ax.eval (.tmp 64) = _ := hF 25 (det 64 _) (mem4 (.tail _ (.tail _ (.tail _ (.head _)))))
  have e65 : ax.eval (.tmp 65) = _ := hF 26 (det 65 _) (mem4 (.tail _ (.tail _ (.head _))))
  have e66 : ax.eval (.tmp 66) = _ := hF 27 (det 66 _) (mem4 (.tail _ (.head _)))
  have e67 : ax.eval (.tmp 67) = _ := hF 28 (det 67 _) (mem4 (.head _))
  have e68 : ax.eval (.tmp 68) = _ := hF 29 (det 68 _) (.tail _ (.tail _ (.tail _ (.head _))))
  have e69 : ax.eval (.tmp 69) = _ := hF 30 (det 69 _) (.tail _ (.tail _ (.head _)))
  have e70 : ax.eval (.tmp 70) = _ := hF 31 (det 70 _) (.tail _ (.head _))
  have e0 : ax.eval (.tmp 0) = _ := hF 32 (det 0 _) (.head _)
  rw [AllEq.frame (D := [39, 40, 41, 42, 43, 44, 45, 46, 47, 48, 49, 50, 51, 52, 53, 54, 55, 56, 57, 58, 59, 60, 61, 62, 63, 64, 65, 66, 67, 68, 69, 70, 0]) (AllEq.cons e39 (AllEq.cons e40 (AllEq.cons e41 (AllEq.cons e42 (AllEq.cons e43 (AllEq.cons e44 (AllEq.cons e45 (AllEq.cons e46 (AllEq.cons e47 (AllEq.cons e48 (AllEq.cons e49 (AllEq.cons e50 (AllEq.cons e51 (AllEq.cons e52 (AllEq.cons e53 (AllEq.cons e54 (AllEq.cons e55 (AllEq.cons e56 (AllEq.cons e57 (AllEq.cons e58 (AllEq.cons e59 (AllEq.cons e60 (AllEq.cons e61 (AllEq.cons e62 (AllEq.cons e63 (AllEq.cons e64 (AllEq.cons e65 (AllEq.cons e66 (AllEq.cons e67 (AllEq.cons e68 (AllEq.cons e69 (AllEq.cons e70 (AllEq.cons e0 (AllEq.nil)))))))))))))))))))))))))))))))))) hE rfl]
  clear hF hE e39 e40 e41 e42 e43 e44 e45 e46 e47 e48 e49 e50 e51 e52 e53 e54 e55 e56 e57 e58 e59 e60 e61 e62 e63 e64 e65 e66 e67 e68 e69 e70 e0
  simp only [List.foldl_cons, List.foldl_nil, Act.put, List.setIfInBounds_toArray, List.set_cons_succ, List.set_cons_zero]
  go_wp2_with fail
  go_ret
  exact ⟨rfl, hE9.trans R10⟩
end Go.Proofs.Ytoiifcmjmjkcaaa
