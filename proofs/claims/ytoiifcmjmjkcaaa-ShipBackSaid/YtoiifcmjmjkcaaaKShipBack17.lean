/- tiercelaw31: sec, awake. -/
import Derived.Test.YtoiifcmjmjkcaaaKShipBack16
import Derived.Test.YtoiifcmjmjkcaaaKShipBack13
namespace Go.Proofs.Ytoiifcmjmjkcaaa
set_option linter.unusedVariables false
set_option linter.unusedSimpArgs false
open Go.RowKit

set_option maxRecDepth 10000 in
set_option maxHeartbeats 1000000 in
theorem sec31_any (b : UInt8) (w : World) : Calls Try.prog 22 #[.int .u8 b.toNat] w fun e w' => e = .returned (.string ⟨(secL b).toArray⟩) ∧ Below w.heap.size w w' := by
  go_enter Try.func22, Try.ntmps22
  have hmk : ∀ w, (Instr.makeSlice 22 (.int .i64 16) (.int .i64 16)).run Try.prog w = .ok (.slice (some ⟨w.heap.size, 0, none⟩) 16 16) (w.alloc (.cells (rowOf (List.replicate 16 0) 16) 5)) := fun _ => by kernel_rfl
  generalize hL0 : List.replicate 16 (0 : UInt8) = L0 at hmk
  have HL0 := Lib.hid hL0
  clear hL0
  go_wp2_with fail
  go_loopw [4] (fun i wr => ∃ j : Nat, j ≤ 16 ∧ i = .int .i64 j ∧ Bytes wr w.heap.size (List.replicate j b ++ List.replicate (16 - j) 0) 16 ∧ Below w.heap.size w wr) (fun i _ => 16 - (intOf i).toNat)
  case atStart => exact ⟨0, by omega, rfl, by rw [← HL0.out]; exact Bytes.made, by (repeat (first | with_reducible exact Below.refl _ _ | with_reducible assumption | with_reducible apply Below.drew | with_reducible apply below_drewN | (with_reducible refine below_set ?_ ?_; focus ((try simp); (try omega); done)) | (with_reducible refine below_new ?_ ?_; focus ((try simp); (try omega); done))))⟩
  case round =>
    obtain ⟨j, hj, rfl, hB, hb⟩ := hrel
    clear hmk
    by_cases hlt : j < 16
    · have hcell := hB.cell (i := j) (by simp; omega)
      have hfz := hB.frozen (i := j) (by omega)
      have hset := hB.set_ (i := j) (by simp; omega) b
      have hL : (List.replicate j b ++ List.replicate (16 - j) 0).set j b = List.replicate (j + 1) b ++ List.replicate (16 - (j + 1)) 0 := by
        rw [List.set_append_right _ _ (by simp), List.length_replicate, Nat.sub_self, show 16 - j = (16 - (j + 1)) + 1 by omega, List.replicate_succ, List.set_cons_zero, List.replicate_succ', List.append_assoc]
        rfl
      rw [hL] at hset
      have Hset := Lib.hid hset
      generalize (List.replicate j b ++ List.replicate (16 - j) 0).getD j 0 = x at hcell
      clear hL hset hB
      go_wp2_with fail
      go_roundw
      case rel => exact ⟨j + 1, by omega, by go_num, Hset.out, by (repeat (first | with_reducible exact Below.refl _ _ | with_reducible assumption | with_reducible apply Below.drew | with_reducible apply below_drewN | (with_reducible refine below_set ?_ ?_; focus ((try simp); (try omega); done)) | (with_reducible refine below_new ?_ ?_; focus ((try simp); (try omega); done))))⟩
      case measure => simp [intOf]; omega
    · obtain rfl : j = 16 := by omega
      have hcv := hB.conv 16 16 (by simp)
      have hsec : (List.replicate 16 b ++ List.replicate (16 - 16) 0) = secL b := by simp [secL]
      rw [hsec] at hcv
      clear hB hsec
      generalize hT : secL b = T at hcv
      have HT := Lib.hid hT
      clear hT
      go_wp2_with fail
      go_ret
      exact ⟨by rw [HT.out]; rfl, hb⟩
theorem sec31_call (b : UInt8) (q : ByteArray) (hq : secT b = q) (x : Int) (hx : x = (b.toNat : Int)) (w : World) : Calls Try.prog 22 #[.int .u8 x] w fun e w' => e = .returned (.string q) ∧ Ext w w' := by
  subst hx hq
  exact sec31_any b w
theorem chgL_len (f g : Nat → UInt8) (n : Nat) : (chgL f g n).length = 22 + 8 * (exts f g n).length + 16 * diffN f g n := by
  unfold chgL strL
  rw [sealL_length, List.length_append, strH_len, exts_bytes]
  omega
def gA (i : Nat) : UInt8 := [1, 2].getD i 0
def gB (i : Nat) : UInt8 := [1, 3].getD i 0
theorem exts_AB : (exts gA gB 2).length = 1 := by
  have h0 : secB (txt gB 2) 0 = secB (txt gA 2) 0 := (secB_eq gA gB 2 0 (by decide)).2 rfl
  have h1 : ¬ secB (txt gB 2) 1 = secB (txt gA 2) 1 := fun h => absurd ((secB_eq gA gB 2 1 (by decide)).1 h) (by decide)
  unfold exts
  rw [ofTo, if_neg h1, ofTo, if_pos h0, ofTo, laid_nil]
  rfl
theorem crc_AB : crcX gB 2 ≠ crcX gA 2 := by decide +kernel
set_option maxRecDepth 100000 in
set_option maxHeartbeats 4000000 in
theorem awake31 (w : World) : Calls Try.prog 14 #[] w fun e w' => e = .returned (.bool true) ∧ Ext w w' := by
  obtain ⟨q1, hq1⟩ : ∃ q, secT 1 = q := ⟨_, rfl⟩
  obtain ⟨q2, hq2⟩ : ∃ q, secT 2 = q := ⟨_, rfl⟩
  obtain ⟨q3, hq3⟩ : ∃ q, secT 3 = q := ⟨_, rfl⟩
  have H1 := Lib.hid (sec31_call 1 q1 hq1 1 rfl)
  have H2 := Lib.hid (sec31_call 2 q2 hq2 2 rfl)
  have H3 := Lib.hid (sec31_call 3 q3 hq3 3 rfl)
  have s1 : q1.size = 16 := by rw [← hq1]; exact secT_size _
  have s2 : q2.size = 16 := by rw [← hq2]; exact secT_size _
  have s3 : q3.size = 16 := by rw [← hq3]; exact secT_size _
  obtain ⟨S, hS⟩ : ∃ q, q1 ++ q2 = q := ⟨_, rfl⟩
  obtain ⟨T, hT⟩ : ∃ q, q1 ++ q3 = q := ⟨_, rfl⟩
  have eS : txt gA 2 = S := by
    rw [← hS, ← hq1, ← hq2, ← txt_next gA 1 2 rfl, ← txt_next gA 0 1 rfl, txt_zero]
    rfl
  have eT : txt gB 2 = T := by
    rw [← hT, ← hq1, ← hq3, ← txt_next gB 1 3 rfl, ← txt_next gB 0 1 rfl, txt_zero]
    rfl
  obtain ⟨s, hs⟩ : ∃ q : ByteArray, (⟨(chgL gA gB 2).toArray⟩ : ByteArray) = q := ⟨_, rfl⟩
  obtain ⟨t, ht⟩ : ∃ q : ByteArray, (⟨(allL gA 2).toArray⟩ : ByteArray) = q := ⟨_, rfl⟩
  have hsd : s.data.toList = chgL gA gB 2 := by rw [← hs]
  have htd : t.data.toList = allL gA 2 := by rw [← ht]
  have hss : s.size = 46 := by
    rw [← hs]
    show (chgL gA gB 2).toArray.size = 46
    rw [List.size_toArray, chgL_len, exts_AB]
    rfl
  have HA := Lib.hid (send_chg gA gB 2 (by decide) S T eS eT s hs)
  have HB := Lib.hid (send_all gA 2 (by decide) ⟨#[]⟩ S eS t ht)
  have HL := Lib.hid (look_chg gA gB 2 (by decide) s hsd)
  have HT1 := Lib.hid (take_chg_yes gA gB gA 2 (by decide) S s T eS eT hsd rfl (by rw [txt_eq]; intro i _; split <;> simp_all))
  have HT2 := Lib.hid (take_all gA 2 (by decide) ⟨#[]⟩ t S eS htd)
  have HT3 := Lib.hid (take_chg_no gA gB gB 2 (by decide) T s eT hsd crc_AB)
  obtain ⟨ca, hca⟩ : ∃ c, crcX gA 2 = c := ⟨_, rfl⟩
  obtain ⟨cb, hcb⟩ : ∃ c, crcX gB 2 = c := ⟨_, rfl⟩
  rw [hca, hcb] at HL
  have hSS : (S.toList == S.toList) = true := by simp
  have hTT : (T.toList == T.toList) = true := by simp
  clear hq1 hq2 hq3 eS eT hs ht hsd htd hca hcb
  go_enter Try.func14, Try.ntmps14
  go_wp2_with fail
  refine (H1.out _).mono ?_
  rintro e w1 ⟨rfl, R1⟩
  go_wp2_with fail
  refine (H2.out _).mono ?_
  rintro e w2 ⟨rfl, R2⟩
  go_wp2_with fail
  refine (H1.out _).mono ?_
  rintro e w3 ⟨rfl, R3⟩
  go_wp2_with fail
  refine (H3.out _).mono ?_
  rintro e w4 ⟨rfl, R4⟩
  go_wp2_with fail
  refine (HA.out _).mono ?_
  rintro e w5 ⟨rfl, R5⟩
  go_wp2_with fail
  refine (HB.out _).mono ?_
  rintro e w6 ⟨rfl, R6⟩
  go_wp2_with fail
  refine (HL.out _).mono ?_
  rintro e w7 ⟨rfl, R7⟩
  have hE7 := (((((R1.trans R2).trans R3).trans R4).trans R5).trans R6).trans R7
  have E7 := Ext.alloc w7 (.cells #[.int .i64 2, .int .i64 2, .int .u32 ca, .int .u32 cb] 44)
  have hX := Blk.new w7 44 #[.int .i64 2, .int .i64 2, .int .u32 ca, .int .u32 cb]
  have hE8 := hE7.trans E7
  have HX := Lib.hid hX
  clear R1 R2 R3 R4 R5 R6 R7 hX E7 hE7
  go_wp2_with fail
  refine (HT1.out _).mono ?_
  rintro e w8 ⟨rfl, R8⟩
  go_wp2_with fail
  refine (HT2.out _).mono ?_
  rintro e w9 ⟨rfl, R9⟩
  go_wp2_with fail
  refine (HT3.out _).mono ?_
  rintro e w10 ⟨rfl, R10⟩
  have hX10 := ((HX.out.ext R8).ext R9).ext R10
  have k0 := hX10.cell 0
  have k1 := hX10.cell 1
  have hE10 := ((hE8.trans R8).trans R9).trans R10
  clear R8 R9 R10 hX10 hE8
  go_wp2_with fail
  go_ret
  exact ⟨rfl, hE10⟩
end Go.Proofs.Ytoiifcmjmjkcaaa

/- DiffBack: what is told makes the one the other one, and back. -/
namespace Go.Proofs.Ytoiifcmjmjkcaaa
set_option linter.unusedVariables false
set_option linter.unusedSimpArgs false
open Go.RowKit

theorem row1_nat {w : World} {A : Option Addr} {xs : List Int} (h : Row1 w A (Value.int .u8) xs) (h0 : ∀ x ∈ xs, 0 ≤ x) : Row1 w A (fun n : Nat => Value.int .u8 n) (xs.map Int.toNat) := by
  intro i x hx
  rw [List.getElem?_map] at hx
  cases hxi : xs[i]? with
  | none => rw [hxi] at hx; simp at hx
  | some y =>
    rw [hxi] at hx
    simp only [Option.map_some, Option.some.injEq] at hx
    subst hx
    obtain ⟨b, off, hA, hb, hc⟩ := h i y hxi
    have hy := h0 y (List.mem_of_getElem? hxi)
    exact ⟨b, off, hA, hb, by rw [hc]; congr 2; omega⟩
theorem arg_bytes {w : World} {v : Value} (h : Arg Try.prog w 22 v) :
    ∃ A len cap, ∃ xs : List Nat, v = .slice A len cap ∧ len ≤ maxLen ∧ xs.length = len ∧ (∀ x ∈ xs, x < 256) ∧ Row1 w A (fun n : Nat => Value.int .u8 n) xs := by
  obtain ⟨A, len, cap, xs, rfl, h1, h2, h3, h4, h5⟩ := arg_ints Try.underlying22 Try.underlying5 (by kernel_rfl) h
  have hb : ∀ x ∈ xs, 0 ≤ x ∧ x ≤ 255 := fun x hx => bounds_u8 (h4 x hx)
  refine ⟨A, len, cap, xs.map Int.toNat, rfl, by omega, by simpa using h3, fun x hx => ?_, row1_nat h5 (fun x hx => (hb x hx).1)⟩
  simp only [List.mem_map] at hx
  obtain ⟨y, hy, rfl⟩ := hx
  have := hb y hy
  omega
/-- The byte of sector i. -/
def mod3 (xs : List Nat) (i : Nat) : UInt8 := UInt8.ofNat (xs.getD i 0 % 3)
theorem ofNat3 (a b : Nat) : UInt8.ofNat (a % 3) = UInt8.ofNat (b % 3) ↔ a % 3 = b % 3 := by
  constructor
  · intro h
    have := congrArg UInt8.toNat h
    simp at this
    omega
  · intro h; rw [h]
set_option maxRecDepth 100000 in
set_option maxHeartbeats 4000000 in
theorem diffBack_core (A A' : Option Addr) (len cap len' cap' : Nat) (xs ys : List Nat) (w : World) (hlen : xs.length = len) (hlen' : ys.length = len') (hm : len ≤ maxLen) (hm' : len' ≤ maxLen) (hx : ∀ x ∈ xs, x < 256) (hy : ∀ x ∈ ys, x < 256) (hrow : Row1 w A (fun n : Nat => Value.int .u8 n) xs) (hrow' : Row1 w A' (fun n : Nat => Value.int .u8 n) ys) :
    Calls Try.prog 3 #[.slice A len cap, .slice A' len' cap'] w fun e w' => e = .returned (.bool true) ∧ Ext w w' := by
  unfold maxLen at hm hm'
  obtain ⟨n, hn⟩ : ∃ n, min (min len len') 60 = n := ⟨_, rfl⟩
  have hn1 : n ≤ len := by omega
  have hn2 : n ≤ len' := by omega
  have hn60 : n ≤ 60 := by omega
  obtain ⟨m1, hm1⟩ : ∃ m : Nat, min len len' = m := ⟨_, rfl⟩
  have hmin1 : (if (len' : Int) < (len : Int) then (len' : Int) else (len : Int)) = (m1 : Int) := by split <;> omega
  have hmin2 : (if len' < len then (len' : Int) else (len : Int)) = (m1 : Int) := by split <;> omega
  have hmin3 : (if (60 : Int) < (m1 : Int) then 60 else (m1 : Int)) = (n : Int) := by split <;> omega
  have hmin4 : (if 60 < m1 then 60 else (m1 : Int)) = (n : Int) := by split <;> omega
  clear hn hm1
  go_enter Try.func3, Try.ntmps3
  go_wp2_with fail
  refine (awake30 _).mono ?_
  rintro e w1 ⟨rfl, R1⟩
  have HW1 := Lib.hid R1
  go_upto_region 8 with fail
  clear hmin1 hmin2 hmin3 hmin4
  go_loopw [6, 7, 8, 9] (fun s t d i wr => ∃ j : Nat, j ≤ n ∧ s = .string (txt (mod3 xs) j) ∧ t = .string (txt (mod3 ys) j) ∧ d = .int .i64 (diffN (mod3 xs) (mod3 ys) j) ∧ i = .int .i64 j ∧ Ext w wr) (fun _ _ _ i _ => n - (intOf i).toNat)
  case atStart => exact ⟨0, by omega, rfl, rfl, rfl, rfl, R1⟩
  case round =>
    clear R1
    obtain ⟨j, hj, rfl, rfl, rfl, rfl, hEx⟩ := hrel
    by_cases hlt : j < n
    · have hjx : j < xs.length := by omega
      have hjy : j < ys.length := by omega
      obtain ⟨b0, o0, rfl, hl0, q0⟩ := hrow.in_ hEx hjx
      obtain ⟨b1, o1, rfl, hl1, q1⟩ := hrow'.in_ hEx hjy
      have ex : xs.getD j 0 = xs[j] := by simp [List.getD, hjx]
      have ey : ys.getD j 0 = ys[j] := by simp [List.getD, hjy]
      have hxj := hx _ (List.getElem_mem hjx)
      have hyj := hy _ (List.getElem_mem hjy)
      have hF : mod3 xs j = UInt8.ofNat (xs[j] % 3) := by unfold mod3; rw [ex]
      have hG : mod3 ys j = UInt8.ofNat (ys[j] % 3) := by unfold mod3; rw [ey]
      clear ex ey
      have HQ := Lib.hid (fun (W : World) (h : Ext wr W) => And.intro ((bcell h).1 b0 (o0 + j) (Nat.lt_of_lt_of_le hl0 hEx.size) |>.trans q0) ((bcell h).1 b1 (o1 + j) (Nat.lt_of_lt_of_le hl1 hEx.size) |>.trans q1))
      generalize xs[j] = a at q0 hxj hF HQ
      generalize ys[j] = b at q1 hyj hG HQ
      have hdn : diffN (mod3 xs) (mod3 ys) (j + 1) = diffN (mod3 xs) (mod3 ys) j + if b % 3 = a % 3 then 0 else 1 := by
        rw [diffN, hF, hG]
        simp only [ofNat3]
      obtain ⟨qF, hqF⟩ : ∃ q, secT (UInt8.ofNat (a % 3)) = q := ⟨_, rfl⟩
      obtain ⟨qG, hqG⟩ : ∃ q, secT (UInt8.ofNat (b % 3)) = q := ⟨_, rfl⟩
      have HA := Lib.hid (sec_call _ qF hqF ((a : Int) % 3) (by simp; omega))
      have HB := Lib.hid (sec_call _ qG hqG ((b : Int) % 3) (by simp; omega))
      have sF : qF.size = 16 := by rw [← hqF]; exact secT_size _
      have sG : qG.size = 16 := by rw [← hqG]; exact secT_size _
      have nF := txt_next (mod3 xs) j _ hF
      have nG := txt_next (mod3 ys) j _ hG
      rw [hqF] at nF
      rw [hqG] at nG
      have sQ := txt_size (mod3 xs) j
      have sP := txt_size (mod3 ys) j
      have hdl := diffN_le (mod3 xs) (mod3 ys) j
      generalize txt (mod3 xs) j = Q at nF sQ ⊢
      generalize txt (mod3 ys) j = P at nG sP ⊢
      obtain ⟨Q2, hQ2⟩ : ∃ q, txt (mod3 xs) (j + 1) = q := ⟨_, rfl⟩
      obtain ⟨P2, hP2⟩ : ∃ q, txt (mod3 ys) (j + 1) = q := ⟨_, rfl⟩
      rw [hQ2] at nF
      rw [hP2] at nG
      have HQ2 := Lib.hid hQ2
      have HP2 := Lib.hid hP2
      clear hQ2 hP2
      generalize diffN (mod3 xs) (mod3 ys) j = D at hdn hdl ⊢
      have hwd : IntKind.i64.wrap ((D : Int) + 1) = (D : Int) + 1 := IntWalk.i64_in _ (by omega)
      go_wp2_with fail
      refine (HA.out _).mono ?_
      rintro e w2 ⟨rfl, R2⟩
      clear q0 q1
      have q1 := (HQ.out _ R2).2
      go_wp2_with fail
      refine (HB.out _).mono ?_
      rintro e w3 ⟨rfl, R3⟩
      have R23 := R2.trans R3
      have hEx3 := hEx.trans R23
      clear q1 R2 R3 hEx HA HB
      have ta : (a : Int).tmod 3 = (a : Int) % 3 := Int.tmod_eq_emod_of_nonneg (by omega)
      have tb : (b : Int).tmod 3 = (b : Int) % 3 := Int.tmod_eq_emod_of_nonneg (by omega)
      have ua : IntKind.u8.wrap ((a : Int) % 3) = (a : Int) % 3 := by simp [IntKind.wrap, IntKind.bits, IntKind.signed]; omega
      have ub : IntKind.u8.wrap ((b : Int) % 3) = (b : Int) % 3 := by simp [IntKind.wrap, IntKind.bits, IntKind.signed]; omega
      go_upto_region 12 with fail
      by_cases hab : b % 3 = a % 3
      · rw [if_pos hab, Nat.add_zero] at hdn
        have dn : ((a : Int) % 3 != (b : Int) % 3) = false := by rw [bne_eq_false_iff_eq]; omega
        have dn2 : ((a : Int) % 3 == (b : Int) % 3) = true := by rw [beq_iff_eq]; omega
        have dn3 : decide ((a : Int) % 3 = (b : Int) % 3) = true := by rw [decide_eq_true_iff]; omega
        have HD := Lib.hid hdn
        clear hab hdn
        refine wp_typed (R := Ext) (w0 := w3) [[], [], [0, 1], [0, 1, 2], [0, 1, 2, 3], [], [], [5, 6], [5, 6, 7], [5, 6, 7, 8], [0, 1, 2, 3, 4, 5, 6, 7, 8, 9]] [48, 49, 50, 51, 52, 53, 54, 55, 56, 57, 58] Ext.refl (fun _ _ _ => Ext.trans) (Ext.drew _) (by kernel_rfl) ?_
        apply Build.det 48 Ext.refl (by rfl) (by rfl) rfl
        case h =>   -- 0: t48 := Op.move (tmp 0)
          intro ax wx hE hR hF
          have e0 : ax.eval (.tmp 0) = .slice (some ⟨b0, o0, none⟩) len cap := hE.eval 0 (by rfl) rfl
          simp [go_sem, BigFrame.eval_const, BigFrame.eval_global, BigFrame.eval_func, ↓IntWalk.iteOmega, ev e0, dn, dn2, dn3, ta, tb, ua, ub]
          with_reducible rfl
        apply Build.det 49 Ext.refl (by rfl) (by rfl) rfl
        case h =>   -- 1: t49 := Op.move (tmp 9)
          intro ax wx hE hR hF
          have e9 : ax.eval (.tmp 9) = .int .i64 j := hE.eval 9 (by rfl) rfl
          simp [go_sem, BigFrame.eval_const, BigFrame.eval_global, BigFrame.eval_func, ↓IntWalk.iteOmega, ev e9, dn, dn2, dn3, ta, tb, ua, ub]
          with_reducible rfl
        apply Build.det 50 Ext.refl (by rfl) (by rfl) rfl
        case h =>   -- 2: t50 := Op.indexAddr 22 (tmp 48) (tmp 49)
          intro ax wx hE hR hF
          have e48 : ax.eval (.tmp 48) = _ := hF 0 (det 48 _) (by decide) (.tail _ (.head _))
          have e49 : ax.eval (.tmp 49) = _ := hF 1 (det 49 _) (by decide) (.head _)
          simp [go_sem, BigFrame.eval_const, BigFrame.eval_global, BigFrame.eval_func, ↓IntWalk.iteOmega, ev e48, ev e49, dn, dn2, dn3, ta, tb, ua, ub]
          with_reducible rfl
        apply Build.det 51 Ext.refl (by rfl) (by rfl) rfl
        case h =>   -- 3: t51 := Op.load 5 (tmp 50)
          intro ax wx hE hR hF
          have e50 : ax.eval (.tmp 50) = _ := hF 2 (det 50 _) (by decide) (.head _)
          obtain ⟨q0, q1⟩ := HQ.out _ (R23.trans hR)
          simp [go_sem, BigFrame.eval_const, BigFrame.eval_global, BigFrame.eval_func, ↓IntWalk.iteOmega, ev e50, dn, dn2, dn3, ta, tb, ua, ub, q0, q1]
          with_reducible rfl
        apply Build.det 52 Ext.refl (by rfl) (by rfl) rfl
        case h =>   -- 4: t52 := Op.binOp BinOp.rem 5 (tmp 51) (const (Value.int IntKind.u8 3)) 5
          intro ax wx hE hR hF
          have e51 : ax.eval (.tmp 51) = _ := hF 3 (det 51 _) (by decide) (.head _)
          simp [go_sem, BigFrame.eval_const, BigFrame.eval_global, BigFrame.eval_func, ↓IntWalk.iteOmega, ev e51, dn, dn2, dn3, ta, tb, ua, ub]
          with_reducible rfl
        apply Build.det 53 Ext.refl (by rfl) (by rfl) rfl
        case h =>   -- 5: t53 := Op.move (tmp 1)
          intro ax wx hE hR hF
          have e1 : ax.eval (.tmp 1) = .slice (some ⟨b1, o1, none⟩) len' cap' := hE.eval 1 (by rfl) rfl
          simp [go_sem, BigFrame.eval_const, BigFrame.eval_global, BigFrame.eval_func, ↓IntWalk.iteOmega, ev e1, dn, dn2, dn3, ta, tb, ua, ub]
          with_reducible rfl
        apply Build.det 54 Ext.refl (by rfl) (by rfl) rfl
        case h =>   -- 6: t54 := Op.move (tmp 9)
          intro ax wx hE hR hF
          have e9 : ax.eval (.tmp 9) = .int .i64 j := hE.eval 9 (by rfl) rfl
          simp [go_sem, BigFrame.eval_const, BigFrame.eval_global, BigFrame.eval_func, ↓IntWalk.iteOmega, ev e9, dn, dn2, dn3, ta, tb, ua, ub]
          with_reducible rfl
        apply Build.det 55 Ext.refl (by rfl) (by rfl) rfl
        case h =>   -- 7: t55 := Op.indexAddr 22 (tmp 53) (tmp 54)
          intro ax wx hE hR hF
          have e53 : ax.eval (.tmp 53) = _ := hF 5 (det 53 _) (by decide) (.tail _ (.head _))
          have e54 : ax.eval (.tmp 54) = _ := hF 6 (det 54 _) (by decide) (.head _)
          simp [go_sem, BigFrame.eval_const, BigFrame.eval_global, BigFrame.eval_func, ↓IntWalk.iteOmega, ev e53, ev e54, dn, dn2, dn3, ta, tb, ua, ub]
          with_reducible rfl
        apply Build.det 56 Ext.refl (by rfl) (by rfl) rfl
        case h =>   -- 8: t56 := Op.load 5 (tmp 55)
          intro ax wx hE hR hF
          have e55 : ax.eval (.tmp 55) = _ := hF 7 (det 55 _) (by decide) (.head _)
          obtain ⟨q0, q1⟩ := HQ.out _ (R23.trans hR)
          simp [go_sem, BigFrame.eval_const, BigFrame.eval_global, BigFrame.eval_func, ↓IntWalk.iteOmega, ev e55, dn, dn2, dn3, ta, tb, ua, ub, q0, q1]
          with_reducible rfl
        apply Build.det 57 Ext.refl (by rfl) (by rfl) rfl
        case h =>   -- 9: t57 := Op.binOp BinOp.rem 5 (tmp 56) (const (Value.int IntKind.u8 3)) 5
          intro ax wx hE hR hF
          have e56 : ax.eval (.tmp 56) = _ := hF 8 (det 56 _) (by decide) (.head _)
          simp [go_sem, BigFrame.eval_const, BigFrame.eval_global, BigFrame.eval_func, ↓IntWalk.iteOmega, ev e56, dn, dn2, dn3, ta, tb, ua, ub]
          with_reducible rfl
        apply Build.det 58 Ext.refl (by rfl) (by rfl) rfl
        case h =>   -- 10: t58 := Op.binOp BinOp.neq 5 (tmp 52) (tmp 57) 5
          intro ax wx hE hR hF
          have e52 : ax.eval (.tmp 52) = _ := hF 4 (det 52 _) (by decide) (mem4 (.tail _ (.head _)))
          have e57 : ax.eval (.tmp 57) = _ := hF 9 (det 57 _) (by decide) (.head _)
          simp [go_sem, BigFrame.eval_const, BigFrame.eval_global, BigFrame.eval_func, ↓IntWalk.iteOmega, ev e52, ev e57, dn, dn2, dn3, ta, tb, ua, ub]
          with_reducible rfl
        apply Build.stop
        refine ⟨by kernel_rfl, .inl ⟨rfl, ?_⟩⟩
        intro ax w4 hE R4 hF
        have e48 : ax.eval (.tmp 48) = _ := hF 0 (det 48 _) (mem4 (mem4 (.tail _ (.tail _ (.head _)))))
        have e49 : ax.eval (.tmp 49) = _ := hF 1 (det 49 _) (mem4 (mem4 (.tail _ (.head _))))
        have e50 : ax.eval (.tmp 50) = _ := hF 2 (det 50 _) (mem4 (mem4 (.head _)))
        have e51 : ax.eval (.tmp 51) = _ := hF 3 (det 51 _) (mem4 (.tail _ (.tail _ (.tail _ (.head _)))))
        have e52 : ax.eval (.tmp 52) = _ := hF 4 (det 52 _) (mem4 (.tail _ (.tail _ (.head _))))
        have e53 : ax.eval (.tmp 53) = _ := hF 5 (det 53 _) (mem4 (.tail _ (.head _)))
        have e54 : ax.eval (.tmp 54) = _ := hF 6 (det 54 _) (mem4 (.head _))
        have e55 : ax.eval (.tmp 55) = _ := hF 7 (det 55 _) (.tail _ (.tail _ (.tail _ (.head _))))
        have e56 : ax.eval (.tmp 56) = _ := hF 8 (det 56 _) (.tail _ (.tail _ (.head _)))
        have e57 : ax.eval (.tmp 57) = _ := hF 9 (det 57 _) (.tail _ (.head _))
        have e58 : ax.eval (.tmp 58) = _ := hF 10 (det 58 _) (.head _)
        rw [AllEq.frame (D := [48, 49, 50, 51, 52, 53, 54, 55, 56, 57, 58]) (AllEq.cons e48 (AllEq.cons e49 (AllEq.cons e50 (AllEq.cons e51 (AllEq.cons e52 (AllEq.cons e53 (AllEq.cons e54 (AllEq.cons e55 (AllEq.cons e56 (AllEq.cons e57 (AllEq.cons e58 (AllEq.nil)))))))))))) hE rfl]
        clear hF hE e48 e49 e50 e51 e52 e53 e54 e55 e56 e57 e58
        simp only [List.foldl_cons, List.foldl_nil, Act.put, List.setIfInBounds_toArray, List.set_cons_succ, List.set_cons_zero]
        have hEx4 := hEx3.trans R4
        clear hEx3 R23 R4 HQ
        go_wp2_with fail
        go_roundw
        case rel => exact ⟨j + 1, by omega, by rw [HQ2.out] <;> rfl, by rw [HP2.out] <;> rfl, by rw [HD.out] <;> go_num, by go_num, hEx4⟩
        case measure => simp [intOf]; omega
      · rw [if_neg hab] at hdn
        have dn : ((a : Int) % 3 != (b : Int) % 3) = true := by rw [bne_iff_ne]; omega
        have dn2 : ((a : Int) % 3 == (b : Int) % 3) = false := by rw [beq_eq_false_iff_ne]; omega
        have dn3 : decide ((a : Int) % 3 = (b : Int) % 3) = false := by rw [decide_eq_false_iff_not]; omega
        have HD := Lib.hid hdn
        clear hab hdn
        refine wp_typed (R := Ext) (w0 := w3) [[], [], [0, 1], [0, 1, 2], [0, 1, 2, 3], [], [], [5, 6], [5, 6, 7], [5, 6, 7, 8], [0, 1, 2, 3, 4, 5, 6, 7, 8, 9]] [48, 49, 50, 51, 52, 53, 54, 55, 56, 57, 58] Ext.refl (fun _ _ _ => Ext.trans) (Ext.drew _) (by kernel_rfl) ?_
        apply Build.det 48 Ext.refl (by rfl) (by rfl) rfl
        case h =>   -- 0: t48 := Op.move (tmp 0)
          intro ax wx hE hR hF
          have e0 : ax.eval (.tmp 0) = .slice (some ⟨b0, o0, none⟩) len cap := hE.eval 0 (by rfl) rfl
          simp [go_sem, BigFrame.eval_const, BigFrame.eval_global, BigFrame.eval_func, ↓IntWalk.iteOmega, ev e0, dn, dn2, dn3, ta, tb, ua, ub]
          with_reducible rfl
        apply Build.det 49 Ext.refl (by rfl) (by rfl) rfl
        case h =>   -- 1: t49 := Op.move (tmp 9)
          intro ax wx hE hR hF
          have e9 : ax.eval (.tmp 9) = .int .i64 j := hE.eval 9 (by rfl) rfl
          simp [go_sem, BigFrame.eval_const, BigFrame.eval_global, BigFrame.eval_func, ↓IntWalk.iteOmega, ev e9, dn, dn2, dn3, ta, tb, ua, ub]
          with_reducible rfl
        apply Build.det 50 Ext.refl (by rfl) (by rfl) rfl
        case h =>   -- 2: t50 := Op.indexAddr 22 (tmp 48) (tmp 49)
          intro ax wx hE hR hF
          have e48 : ax.eval (.tmp 48) = _ := hF 0 (det 48 _) (by decide) (.tail _ (.head _))
          have e49 : ax.eval (.tmp 49) = _ := hF 1 (det 49 _) (by decide) (.head _)
          simp [go_sem, BigFrame.eval_const, BigFrame.eval_global, BigFrame.eval_func, ↓IntWalk.iteOmega, ev e48, ev e49, dn, dn2, dn3, ta, tb, ua, ub]
          with_reducible rfl
        apply Build.det 51 Ext.refl (by rfl) (by rfl) rfl
        case h =>   -- 3: t51 := Op.load 5 (tmp 50)
          intro ax wx hE hR hF
          have e50 : ax.eval (.tmp 50) = _ := hF 2 (det 50 _) (by decide) (.head _)
          obtain ⟨q0, q1⟩ := HQ.out _ (R23.trans hR)
          simp [go_sem, BigFrame.eval_const, BigFrame.eval_global, BigFrame.eval_func, ↓IntWalk.iteOmega, ev e50, dn, dn2, dn3, ta, tb, ua, ub, q0, q1]
          with_reducible rfl
        apply Build.det 52 Ext.refl (by rfl) (by rfl) rfl
        case h =>   -- 4: t52 := Op.binOp BinOp.rem 5 (tmp 51) (const (Value.int IntKind.u8 3)) 5
          intro ax wx hE hR hF
          have e51 : ax.eval (.tmp 51) = _ := hF 3 (det 51 _) (by decide) (.head _)
          simp [go_sem, BigFrame.eval_const, BigFrame.eval_global, BigFrame.eval_func, ↓IntWalk.iteOmega, ev e51, dn, dn2, dn3, ta, tb, ua, ub]
          with_reducible rfl
        apply Build.det 53 Ext.refl (by rfl) (by rfl) rfl
        case h =>   -- 5: t53 := Op.move (tmp 1)
          intro ax wx hE hR hF
          have e1 : ax.eval (.tmp 1) = .slice (some ⟨b1, o1, none⟩) len' cap' := hE.eval 1 (by rfl) rfl
          simp [go_sem, BigFrame.eval_const, BigFrame.eval_global, BigFrame.eval_func, ↓IntWalk.iteOmega, ev e1, dn, dn2, dn3, ta, tb, ua, ub]
          with_reducible rfl
        apply Build.det 54 Ext.refl (by rfl) (by rfl) rfl
        case h =>   -- 6: t54 := Op.move (tmp 9)
          intro ax wx hE hR hF
          have e9 : ax.eval (.tmp 9) = .int .i64 j := hE.eval 9 (by rfl) rfl
          simp [go_sem, BigFrame.eval_const, BigFrame.eval_global, BigFrame.eval_func, ↓IntWalk.iteOmega, ev e9, dn, dn2, dn3, ta, tb, ua, ub]
          with_reducible rfl
        apply Build.det 55 Ext.refl (by rfl) (by rfl) rfl
        case h =>   -- 7: t55 := Op.indexAddr 22 (tmp 53) (tmp 54)
          intro ax wx hE hR hF
          have e53 : ax.eval (.tmp 53) = _ := hF 5 (det 53 _) (by decide) (.tail _ (.head _))
          have e54 : ax.eval (.tmp 54) = _ := hF 6 (det 54 _) (by decide) (.head _)
          simp [go_sem, BigFrame.eval_const, BigFrame.eval_global, BigFrame.eval_func, ↓IntWalk.iteOmega, ev e53, ev e54, dn, dn2, dn3, ta, tb, ua, ub]
          with_reducible rfl
        apply Build.det 56 Ext.refl (by rfl) (by rfl) rfl
        case h =>   -- 8: t56 := Op.load 5 (tmp 55)
          intro ax wx hE hR hF
          have e55 : ax.eval (.tmp 55) = _ := hF 7 (det 55 _) (by decide) (.head _)
          obtain ⟨q0, q1⟩ := HQ.out _ (R23.trans hR)
          simp [go_sem, BigFrame.eval_const, BigFrame.eval_global, BigFrame.eval_func, ↓IntWalk.iteOmega, ev e55, dn, dn2, dn3, ta, tb, ua, ub, q0, q1]
          with_reducible rfl
        apply Build.det 57 Ext.refl (by rfl) (by rfl) rfl
        case h =>   -- 9: t57 := Op.binOp BinOp.rem 5 (tmp 56) (const (Value.int IntKind.u8 3)) 5
          intro ax wx hE hR hF
          have e56 : ax.eval (.tmp 56) = _ := hF 8 (det 56 _) (by decide) (.head _)
          simp [go_sem, BigFrame.eval_const, BigFrame.eval_global, BigFrame.eval_func, ↓IntWalk.iteOmega, ev e56, dn, dn2, dn3, ta, tb, ua, ub]
          with_reducible rfl
        apply Build.det 58 Ext.refl (by rfl) (by rfl) rfl
        case h =>   -- 10: t58 := Op.binOp BinOp.neq 5 (tmp 52) (tmp 57) 5
          intro ax wx hE hR hF
          have e52 : ax.eval (.tmp 52) = _ := hF 4 (det 52 _) (by decide) (mem4 (.tail _ (.head _)))
          have e57 : ax.eval (.tmp 57) = _ := hF 9 (det 57 _) (by decide) (.head _)
          simp [go_sem, BigFrame.eval_const, BigFrame.eval_global, BigFrame.eval_func, ↓IntWalk.iteOmega, ev e52, ev e57, dn, dn2, dn3, ta, tb, ua, ub]
          with_reducible rfl
        apply Build.stop
        refine ⟨by kernel_rfl, .inl ⟨rfl, ?_⟩⟩
        intro ax w4 hE R4 hF
        have e48 : ax.eval (.tmp 48) = _ := hF 0 (det 48 _) (mem4 (mem4 (.tail _ (.tail _ (.head _)))))
        have e49 : ax.eval (.tmp 49) = _ := hF 1 (det 49 _) (mem4 (mem4 (.tail _ (.head _))))
        have e50 : ax.eval (.tmp 50) = _ := hF 2 (det 50 _) (mem4 (mem4 (.head _)))
        have e51 : ax.eval (.tmp 51) = _ := hF 3 (det 51 _) (mem4 (.tail _ (.tail _ (.tail _ (.head _)))))
        have e52 : ax.eval (.tmp 52) = _ := hF 4 (det 52 _) (mem4 (.tail _ (.tail _ (.head _))))
        have e53 : ax.eval (.tmp 53) = _ := hF 5 (det 53 _) (mem4 (.tail _ (.head _)))
        have e54 : ax.eval (.tmp 54) = _ := hF 6 (det 54 _) (mem4 (.head _))
        have e55 : ax.eval (.tmp 55) = _ := hF 7 (det 55 _) (.tail _ (.tail _ (.tail _ (.head _))))
        have e56 : ax.eval (.tmp 56) = _ := hF 8 (det 56 _) (.tail _ (.tail _ (.head _)))
        have e57 : ax.eval (.tmp 57) = _ := hF 9 (det 57 _) (.tail _ (.head _))
        have e58 : ax.eval (.tmp 58) = _ := hF 10 (det 58 _) (.head _)
        rw [AllEq.frame (D := [48, 49, 50, 51, 52, 53, 54, 55, 56, 57, 58]) (AllEq.cons e48 (AllEq.cons e49 (AllEq.cons e50 (AllEq.cons e51 (AllEq.cons e52 (AllEq.cons e53 (AllEq.cons e54 (AllEq.cons e55 (AllEq.cons e56 (AllEq.cons e57 (AllEq.cons e58 (AllEq.nil)))))))))))) hE rfl]
        clear hF hE e48 e49 e50 e51 e52 e53 e54 e55 e56 e57 e58
        simp only [List.foldl_cons, List.foldl_nil, Act.put, List.setIfInBounds_toArray, List.set_cons_succ, List.set_cons_zero]
        have hEx4 := hEx3.trans R4
        clear hEx3 R23 R4 HQ
        go_wp2_with fail
        go_roundw
        case rel => exact ⟨j + 1, by omega, by rw [HQ2.out] <;> rfl, by rw [HP2.out] <;> rfl, by rw [HD.out] <;> go_num, by go_num, hEx4⟩
        case measure => simp [intOf]; omega
    · obtain rfl : j = n := by omega
      obtain ⟨K, hK⟩ : ∃ K, (ofTo (txt (mod3 xs) j) (txt (mod3 ys) j) j).length = K := ⟨_, rfl⟩
      have hK' : (ofTo (txt (mod3 ys) j) (txt (mod3 xs) j) j).length = K := by rw [← hK]; exact len_ofTo _ _ j j (txt_size _ _) (txt_size _ _) (Nat.le_refl _)
      have hKl : K ≤ 60 := by have := ofTo_len (txt (mod3 xs) j) (txt (mod3 ys) j) j; omega
      have hj6 : j ≤ 1000000 := by omega
      have e1 : txt (fun i => if mod3 ys i = mod3 xs i then mod3 xs i else mod3 ys i) j = txt (mod3 ys) j := by
        rw [txt_eq]; intro i _; split <;> simp_all
      have e2 : txt (fun i => if mod3 xs i = mod3 ys i then mod3 ys i else mod3 xs i) j = txt (mod3 xs) j := by
        rw [txt_eq]; intro i _; split <;> simp_all
      have e3 : txt (fun i => if mod3 ys i = mod3 xs i then mod3 ys i else mod3 ys i) j = txt (mod3 ys) j := by
        rw [txt_eq]; intro i _; simp
      have O1 := fun W => of_txt (mod3 xs) (mod3 ys) j hj6 W
      have O2 := fun W => of_txt (mod3 ys) (mod3 xs) j hj6 W
      have P1 := fun W A c => apply_call (mod3 xs) (mod3 ys) (mod3 xs) j hj6 _ e1 A K c W hK
      have P2 := fun W A c => apply_call (mod3 ys) (mod3 xs) (mod3 ys) j hj6 _ e2 A K c W hK'
      have P3 := fun W A c => apply_call (mod3 xs) (mod3 ys) (mod3 ys) j hj6 _ e3 A K c W hK
      have HGD := Lib.hid (fun W A c => good_call (mod3 xs) (mod3 ys) j hj6 A K c W hK)
      obtain ⟨N, hN⟩ : ∃ N, diffN (mod3 xs) (mod3 ys) j = N := ⟨_, rfl⟩
      have HSZ := Lib.hid (fun W A c => size_call (mod3 xs) (mod3 ys) j hj6 N hN A K c W hK)
      rw [hK] at O1
      rw [hK'] at O2
      have hnil : K = 0 ↔ txt (mod3 xs) j = txt (mod3 ys) j := by
        rw [← hK, List.length_eq_zero_iff, ofTo_nil, eq_iff_sec _ _ j (txt_size _ _) (txt_size _ _)]
      rw [hN]
      generalize txt (mod3 xs) j = S at O1 O2 P1 P2 P3 HGD HSZ hnil ⊢
      generalize txt (mod3 ys) j = T at O1 O2 P1 P2 P3 HGD HSZ hnil ⊢
      have HO1 := Lib.hid O1
      have HO2 := Lib.hid O2
      have HP1 := Lib.hid P1
      have HP2 := Lib.hid P2
      have HP3 := Lib.hid P3
      obtain ⟨B, hB⟩ : ∃ B, ((K : Int) == 0) = B := ⟨_, rfl⟩
      have hST : (S.toList == T.toList) = B := by
        by_cases h : K = 0
        · rw [← hB, h, hnil.1 h]; simp
        · rw [str_ne (fun e => h (hnil.2 e)), ← hB, eq_comm, beq_eq_false_iff_ne]; omega
      clear hK hK' e1 e2 e3 O1 O2 P1 P2 P3 hN hnil
      go_wp2_with fail
      refine (HO1.out _).mono ?_
      rintro e w2 ⟨A1, c1, rfl, r1, R2⟩
      have hEx2 := hEx.trans R2
      have HR1 := Lib.hid r1
      clear r1 R2 hEx
      go_wp2_with fail
      refine (HO2.out _).mono ?_
      rintro e w3 ⟨A2, c2, rfl, r2, R3⟩
      have hEx3 := hEx2.trans R3
      have HR1' := Lib.hid (HR1.out.extx R3)
      have HR2 := Lib.hid r2
      clear r2 R3 hEx2 HR1
      go_wp2_with fail
      refine (HSZ.out _ _ _ HR1'.out).mono ?_
      rintro e w4 ⟨rfl, R4⟩
      go_wp2_with fail
      refine (HGD.out _ _ _ (HR1'.out.extx R4)).mono ?_
      rintro e w5 ⟨rfl, R5⟩
      have R45 := R4.trans R5
      clear R4 R5 HSZ HGD
      cases B
      all_goals
        go_wp2_with fail
        refine (HP1.out _ _ _ (HR1'.out.extx R45)).mono ?_
        rintro e w6 ⟨rfl, R6⟩
        have R46 := R45.trans R6
        go_wp2_with fail
        refine (HP2.out _ _ _ (HR2.out.extx R46)).mono ?_
        rintro e w7 ⟨rfl, R7⟩
        have R47 := R46.trans R7
        go_wp2_with fail
        refine (HP3.out _ _ _ (HR1'.out.extx R47)).mono ?_
        rintro e w8 ⟨rfl, R8⟩
        have hEx8 := hEx3.trans (R47.trans R8)
        have hSS : (S.toList == S.toList) = true := by simp
        have hTT : (T.toList == T.toList) = true := by simp
        clear R45 R6 R46 R7 R47 R8 hST hB
        go_wp2_with fail
        go_ret
        exact ⟨rfl, hEx8⟩
theorem diffBack_walk (w : World) (v0 v1 : Value) (h0 : Arg Try.prog w 22 v0) (h1 : Arg Try.prog w 22 v1) :
    Calls Try.prog 3 #[v0, v1] w fun e w' => e = .returned (.bool true) ∧ Below w.heap.size w w' := by
  obtain ⟨A, len, cap, xs, rfl, h2, h3, h4, h5⟩ := arg_bytes h0
  obtain ⟨A', len', cap', ys, rfl, h2', h3', h4', h5'⟩ := arg_bytes h1
  exact diffBack_core A A' len cap len' cap' xs ys w h3 h3' h2 h2' h4 h4' h5 h5'
end Go.Proofs.Ytoiifcmjmjkcaaa
