/- ShipBack: what was sent is taken as it was. -/
import Derived.Test.YtoiifcmjmjkcaaaKShipBack17
import Derived.RegionTactic
namespace Go.Proofs.Ytoiifcmjmjkcaaa
set_option linter.unusedVariables false
set_option linter.unusedSimpArgs false
open Go.RowKit Go.ChangeShapes Go.WideShapes Go.ChangeAt

theorem xor_turn31 (x : UInt8) (M j : Nat) : bits .xor .u8 (x.toNat : Int) ((M : Int) / 2 ^ (8 * j) % 256) = ((x ^^^ UInt8.ofNat (M / 256 ^ j)).toNat : Int) := by
  rw [byte_shift, u8_xor_nat _ _ x.toNat_lt (UInt8.toNat_lt _), UInt8.toNat_xor]
/-- A text with one sector anew. -/
def oneT (H : Nat → UInt8) (k : Nat) (b : UInt8) (m : Nat) : UInt8 := if m = k then b else H m
theorem next_txt (H : Nat → UInt8) (n k : Nat) (b : UInt8) (hk : k < n) : (txt H n).extract 0 (16 * k) ++ secT b ++ (txt H n).extract (16 * k + 16) (16 * n) = txt (oneT H k b) n := by
  have hsz := txt_size H n
  apply str_ext
  have e : ((txt H n).extract 0 (16 * k) ++ secT b ++ (txt H n).extract (16 * k + 16) (16 * n)).data.toList = putB (txtL H n) (16 * k) (secL b) := by
    rw [ByteArray.data_append, ByteArray.data_append, Array.toList_append, Array.toList_append, Lib.extract_data, Lib.extract_data, txt_data, List.drop_zero, Nat.sub_zero]
    unfold putB secT
    rw [List.append_assoc]
    congr 2
    rw [secL_len, List.take_of_length_le]
    rw [List.length_drop, txtL_len]
    omega
  rw [e, txt_data]
  refine secAt_ext _ _ n (by rw [putB_length _ _ _ (by rw [secL_len, txtL_len]; omega), txtL_len]) (txtL_len _ n) (fun j hj => ?_)
  rw [secAt_putB _ _ _ _ (secL_len b) (by rw [txtL_len]; omega) (by rw [txtL_len]; omega), secAt_txtL H n j hj, secAt_txtL (oneT H k b) n j hj]
  unfold oneT
  split <;> rfl
def mod4 (xs : List Nat) (i : Nat) : UInt8 := UInt8.ofNat (xs.getD i 0 % 4)
/-- A stream that was turned is none. -/
theorem look_turned (Q : List UInt8) (hQ : Q.length ≤ 1000000) (k M : Nat) (hk : k ≤ Q.length) (hM : M < 4294967296) (h0 : M ≠ 0) (u : ByteArray) (hu : u.data.toList = turnTo (sealL Q) k M 4) (w : World) :
    Calls Try.prog 18 #[.string u] w fun e w' => e = .returned (.tuple #[streamV 0 0 0 0, .int .i64 3]) ∧ Ext w w' := by
  have hul : u.size = Q.length + 4 := by
    have : u.size = u.data.toList.length := by simp
    rw [this, hu, turnTo_length, sealL_length]
  refine look_shut u (fun W => open_no u W (by omega) (by omega) (fun h => ?_)) w
  have hx := turned_closed Q k M hk hM h0
  apply hx
  rw [hu, turnTo_xor _ Q.length k M (by rw [sealL_length]) hk, hul, show Q.length + 4 - 4 = Q.length by omega] at h
  exact h
theorem crc_of_eq (f g : Nat → UInt8) (n : Nat) (h : txt f n = txt g n) : crcX f n = crcX g n := by
  have := congrArg (fun b : ByteArray => crcSum b.data.toList) h
  exact this
/-- What a step's calls give. -/
structure StepF (H H' : Nat → UInt8) (n : Nat) (N X Q1 Q2 : ByteArray) (cH cX : Nat) : Prop where
  send : ∀ w, Calls Try.prog 15 #[.string N, .string X, .bool false] w fun e w' => e = .returned (.tuple #[.string Q1, .int .i64 0]) ∧ Ext w w'
  take : ∀ w, Calls Try.prog 19 #[.string N, .string Q1] w fun e w' => e = .returned (.tuple #[.string X, .int .i64 0]) ∧ Ext w w'
  other : cX = cH → ∀ w, Calls Try.prog 19 #[.string X, .string Q1] w fun e w' => e = .returned (.tuple #[.string X, .int .i64 0]) ∧ Ext w w'
  other_no : cX ≠ cH → ∀ w, Calls Try.prog 19 #[.string X, .string Q1] w fun e w' => e = .returned (.tuple #[.string ⟨#[]⟩, .int .i64 11]) ∧ Ext w w'
  look : ∀ w, Calls Try.prog 18 #[.string Q1] w fun e w' => e = .returned (.tuple #[streamV 2 n cH cX, .int .i64 0]) ∧ Ext w w'
  send2 : ∀ w, Calls Try.prog 15 #[.string X, .string X, .bool false] w fun e w' => e = .returned (.tuple #[.string Q2, .int .i64 0]) ∧ Ext w w'
  look2 : ∀ w, Calls Try.prog 18 #[.string Q2] w fun e w' => e = .returned (.tuple #[streamV 2 n cX cX, .int .i64 0]) ∧ Ext w w'
  eqc : N = X → cX = cH
  turned : ∀ (k M : Nat), k + 4 ≤ Q1.size → M < 4294967296 → M ≠ 0 → ∀ u : ByteArray, u.data.toList = turnTo Q1.data.toList k M 4 → ∀ w, Calls Try.prog 18 #[.string u] w fun e w' => e = .returned (.tuple #[streamV 0 0 0 0, .int .i64 3]) ∧ Ext w w'
  lo : 22 ≤ Q1.size
  hi : Q1.size ≤ 2000
theorem step_facts (H H' : Nat → UInt8) (n : Nat) (hn : n ≤ 40) : ∃ Q1 Q2 cH cX, StepF H H' n (txt H n) (txt H' n) Q1 Q2 cH cX := by
  have hn4 : n ≤ 4096 := by omega
  have h1 := exts_len H H' n
  have h2 := exts_bytes H H' n
  have h3 := diffN_le H H' n
  have hl := chgL_len H H' n
  have hsz : (⟨(chgL H H' n).toArray⟩ : ByteArray).size = (chgL H H' n).length := List.size_toArray
  refine ⟨⟨(chgL H H' n).toArray⟩, ⟨(chgL H' H' n).toArray⟩, crcX H n, crcX H' n, ?_⟩
  refine ⟨send_chg H H' n hn4 _ _ rfl rfl _ rfl, take_chg_yes H H' H n hn4 _ _ _ rfl rfl rfl rfl (by rw [txt_eq]; intro i _; split <;> simp_all), fun hc => take_chg_yes H H' H' n hn4 _ _ _ rfl rfl rfl hc (by rw [txt_eq]; intro i _; simp), fun hc => take_chg_no H H' H' n hn4 _ _ rfl rfl hc, look_chg H H' n hn4 _ rfl, send_chg H' H' n hn4 _ _ rfl rfl _ rfl, look_chg H' H' n hn4 _ rfl, fun h => (crc_of_eq H H' n h).symm, ?_, by omega, by omega⟩
  intro k M hk hM h0 u hu w
  have hlen : (strL 2 n (crcX H n) (crcX H' n) (exts H H' n)).length + 4 = (chgL H H' n).length := by unfold chgL; rw [sealL_length]
  exact look_turned (strL 2 n (crcX H n) (crcX H' n) (exts H H' n)) (by omega) k M (by omega) hM h0 u hu w
set_option maxRecDepth 100000 in
set_option maxHeartbeats 8000000 in
theorem shipBack_core (A A' : Option Addr) (len cap len' cap' : Nat) (xs : List Nat) (ss : List Int) (at_ : Int) (M : Nat) (w : World) (hlen : xs.length = len) (hlen' : ss.length = len') (hm : len ≤ maxLen) (hm' : len' ≤ maxLen) (hx : ∀ x ∈ xs, x < 256) (hrow : Row1 w A (fun n : Nat => Value.int .u8 n) xs) (hrow' : Row1 w A' (Value.int .i64) ss) (hM : M < 4294967296) :
    Calls Try.prog 6 #[.slice A len cap, .slice A' len' cap', .int .i64 at_, .int .u32 M] w fun e w' => e = .returned (.bool true) ∧ Ext w w' := by
  unfold maxLen at hm hm'
  go_enter Try.func6, Try.ntmps6
  go_wp2_with fail
  refine (awake31 _).mono ?_
  rintro e w1 ⟨rfl, R1⟩
  by_cases h40 : 40 < len
  · have d40 : decide ((40 : Int) < (len : Int)) = true := by rw [decide_eq_true_iff]; omega
    have hEx := R1
    go_wp2_with fail
    go_ret
    exact ⟨rfl, hEx⟩
  · have d40 : decide ((40 : Int) < (len : Int)) = false := by rw [decide_eq_false_iff_not]; omega
    by_cases h6 : 6 < len'
    · have d6 : decide ((6 : Int) < (len' : Int)) = true := by rw [decide_eq_true_iff]; omega
      have hEx := R1
      go_wp2_with fail
      go_ret
      exact ⟨rfl, hEx⟩
    · have d6 : decide ((6 : Int) < (len' : Int)) = false := by rw [decide_eq_false_iff_not]; omega
      go_upto_region 7 with fail
      clear d40 d6
      go_loopw [9, 10] (fun s i wr => ∃ j : Nat, j ≤ len ∧ s = .string (txt (mod4 xs) j) ∧ i = .int .i64 j ∧ Ext w wr) (fun _ i _ => len - (intOf i).toNat)
      case atStart => exact ⟨0, by omega, rfl, rfl, R1⟩
      case round =>
        clear R1
        obtain ⟨j, hj, rfl, rfl, hEx⟩ := hrel
        by_cases hlt : j < len
        · have hjx : j < xs.length := by omega
          obtain ⟨b0, o0, rfl, hl0, q0⟩ := hrow.in_ hEx hjx
          have ex : xs.getD j 0 = xs[j] := by simp [List.getD, hjx]
          have hxj := hx _ (List.getElem_mem hjx)
          have hF : mod4 xs j = UInt8.ofNat (xs[j] % 4) := by unfold mod4; rw [ex]
          clear ex
          generalize xs[j] = a at q0 hxj hF
          obtain ⟨qF, hqF⟩ : ∃ q, secT (UInt8.ofNat (a % 4)) = q := ⟨_, rfl⟩
          have HA := Lib.hid (sec31_call _ qF hqF ((a : Int) % 4) (by simp; omega))
          have sF : qF.size = 16 := by rw [← hqF]; exact secT_size _
          have nF := txt_next (mod4 xs) j _ hF
          rw [hqF] at nF
          have sQ := txt_size (mod4 xs) j
          obtain ⟨Q2, hQ2⟩ : ∃ q, txt (mod4 xs) (j + 1) = q := ⟨_, rfl⟩
          rw [hQ2] at nF
          have HQ2 := Lib.hid hQ2
          clear hQ2 hqF hF
          generalize txt (mod4 xs) j = Q at nF sQ ⊢
          go_wp2_with fail
          refine (HA.out _).mono ?_
          rintro e w2 ⟨rfl, R2⟩
          have hEx2 := hEx.trans R2
          clear q0 HA R2 hEx
          go_wp2_with fail
          go_roundw
          case rel => exact ⟨j + 1, by omega, by rw [HQ2.out] <;> rfl, by go_num, hEx2⟩
          case measure => simp [intOf]; omega
        · obtain rfl : j = len := by omega
          obtain ⟨N, hN⟩ : ∃ q, txt (mod4 xs) j = q := ⟨_, rfl⟩
          obtain ⟨t, ht⟩ : ∃ q : ByteArray, (⟨(allL (mod4 xs) j).toArray⟩ : ByteArray) = q := ⟨_, rfl⟩
          have HS := Lib.hid (send_all (mod4 xs) j (by omega) ⟨#[]⟩ N hN t ht)
          have htd : t.data.toList = allL (mod4 xs) j := by rw [← ht]
          have HT := Lib.hid (fun S => take_all (mod4 xs) j (by omega) S t N hN htd)
          have hNN : (N.toList == N.toList) = true := by simp
          have HN := Lib.hid hN
          rw [hN]
          clear hN ht htd
          go_wp2_with fail
          refine (HS.out _).mono ?_
          rintro e w2 ⟨rfl, R2⟩
          go_wp2_with fail
          refine (HT.out _ _).mono ?_
          rintro e w3 ⟨rfl, R3⟩
          have hEx3 := (hEx.trans R2).trans R3
          clear hEx R2 R3 HS HT
          go_upto_region 15 with fail
          clear hNN
          go_loopw [9, 13, 15] (fun s g i wr => ∃ (q : Nat) (H : Nat → UInt8), q ≤ len' ∧ s = .string (txt H j) ∧ g = .string (txt H j) ∧ i = .int .i64 q ∧ Below w.heap.size w wr) (fun _ _ i _ => len' - (intOf i).toNat)
          case atStart => exact ⟨0, mod4 xs, by omega, by rw [HN.out], by rw [HN.out], rfl, hEx3⟩
          case round =>
            clear hEx3 HN
            obtain ⟨q, H, hq, rfl, rfl, rfl, hEx⟩ := hrel
            by_cases hgo : q < len' ∧ 0 < j
            · obtain ⟨hq1, hj0⟩ := hgo
              have hjq : q < ss.length := by omega
              obtain ⟨b1, o1, rfl, hl1, p0⟩ := hrow'.in_ hEx hjq
              generalize ss[q] = st at p0
              obtain ⟨k, hk, hkl⟩ := modU st j (by omega) (by omega)
              have hkj : k < j := by omega
              have hnx := next_txt H j k (UInt8.ofNat (q + 5)) hkj
              obtain ⟨Q1, Q2, cH, cX, hF⟩ := step_facts H (oneT H k (UInt8.ofNat (q + 5))) j (by omega)
              have sN := txt_size H j
              obtain ⟨X, hX⟩ : ∃ x, txt (oneT H k (UInt8.ofNat (q + 5))) j = x := ⟨_, rfl⟩
              rw [hX] at hnx hF
              obtain ⟨N, hN⟩ : ∃ x, txt H j = x := ⟨_, rfl⟩
              rw [hN] at hnx hF sN
              rw [hN]
              obtain ⟨d, hd⟩ : ∃ x, secT (UInt8.ofNat (q + 5)) = x := ⟨_, rfl⟩
              rw [hd] at hnx
              obtain ⟨a, ha⟩ : ∃ a, 16 * k = a := ⟨_, rfl⟩
              rw [ha] at hnx
              obtain ⟨P1, hP1⟩ : ∃ x, N.extract 0 a = x := ⟨_, rfl⟩
              obtain ⟨P2, hP2⟩ : ∃ x, N.extract (a + 16) (16 * j) = x := ⟨_, rfl⟩
              rw [hP1, hP2] at hnx
              have p1 : P1.size = a := by rw [← hP1, ByteArray.size_extract]; omega
              have p2 : P2.size = 16 * j - (a + 16) := by rw [← hP2, ByteArray.size_extract]; omega
              have sd : d.size = 16 := by rw [← hd]; exact secT_size _
              have hwa : IntKind.i64.wrap (16 * (k : Int)) = (a : Int) := by rw [IntWalk.i64_in _ (by omega)]; omega
              have hwb : IntKind.i64.wrap ((a : Int) + 16) = (a : Int) + 16 := IntWalk.i64_in _ (by omega)
              have tb : ((a : Int) + 16).toNat = a + 16 := by omega
              have hwq : IntKind.i64.wrap ((q : Int) + 5) = (q : Int) + 5 := IntWalk.i64_in _ (by omega)
              have hwu : IntKind.u8.wrap ((q : Int) + 5) = (q : Int) + 5 := by simp [IntKind.wrap, IntKind.bits, IntKind.signed]; omega
              have HD := Lib.hid (sec31_call (UInt8.ofNat (q + 5)) d hd ((q : Int) + 5) (by simp; omega))
              have HX := Lib.hid hX
              have HF := Lib.hid hF
              have haj : a + 16 ≤ 16 * j := by omega
              have hlo := hF.lo
              have hhi := hF.hi
              clear hX hN hd ha hF hkl
              go_upto_region 18 with fail
              try rw [hk]
              clear p0
              refine wp_typed (R := Ext) (w0 := wr) [[], [], [1], [0, 1, 2], [], [4], [4, 5], [4, 5, 6], [0, 1, 2, 3, 4, 5, 6, 7], [], [], [10], [10, 11], [9, 10, 11, 12], [0, 1, 2, 3, 4, 5, 6, 7, 8, 9, 10, 11, 12, 13], [0, 1, 2, 3, 4, 5, 6, 7, 8, 9, 10, 11, 12, 13, 14]] [101, 102, 103, 104, 105, 106, 107, 108, 109, 110, 111, 112, 113, 114, 115, 17] Ext.refl (fun _ _ _ => Ext.trans) (Ext.drew _) (by kernel_rfl) ?_
              apply Build.det 101 Ext.refl (by rfl) (by rfl) rfl
              case h =>   -- 0: t101 := Op.move (tmp 9)
                intro ax wx hE hR hF
                have e9 : ax.eval (.tmp 9) = .string N := hE.eval 9 (by rfl) rfl
                simp [go_sem, BigFrame.eval_const, BigFrame.eval_global, BigFrame.eval_func, ↓IntWalk.iteOmega, ev e9, hwa, hwb, hwq, hwu]
                with_reducible rfl
              apply Build.det 102 Ext.refl (by rfl) (by rfl) rfl
              case h =>   -- 1: t102 := Op.move (tmp 16)
                intro ax wx hE hR hF
                have e16 : ax.eval (.tmp 16) = .int .i64 k := hE.eval 16 (by rfl) rfl
                simp [go_sem, BigFrame.eval_const, BigFrame.eval_global, BigFrame.eval_func, ↓IntWalk.iteOmega, ev e16, hwa, hwb, hwq, hwu]
                with_reducible rfl
              apply Build.det 103 Ext.refl (by rfl) (by rfl) rfl
              case h =>   -- 2: t103 := Op.binOp BinOp.mul 3 (const (Value.int IntKind.i64 16)) (tmp 102) 3
                intro ax wx hE hR hF
                have e102 : ax.eval (.tmp 102) = _ := hF 1 (det 102 _) (by decide) (.head _)
                simp [go_sem, BigFrame.eval_const, BigFrame.eval_global, BigFrame.eval_func, ↓IntWalk.iteOmega, ev e102, hwa, hwb, hwq, hwu]
                with_reducible rfl
              apply Build.det 104 Ext.refl (by rfl) (by rfl) rfl
              case h =>   -- 3: t104 := Op.slice 9 (tmp 101) none (some (tmp 103)) none
                intro ax wx hE hR hF
                have e101 : ax.eval (.tmp 101) = _ := hF 0 (det 101 _) (by decide) (.tail _ (.tail _ (.head _)))
                have e103 : ax.eval (.tmp 103) = _ := hF 2 (det 103 _) (by decide) (.head _)
                simp [go_sem, BigFrame.eval_const, BigFrame.eval_global, BigFrame.eval_func, ↓IntWalk.iteOmega, ev e101, ev e103, hwa, hwb, hwq, hwu, sN, hP1]
                with_reducible rfl
              apply Build.det 105 Ext.refl (by rfl) (by rfl) rfl
              case h =>   -- 4: t105 := Op.move (tmp 15)
                intro ax wx hE hR hF
                have e15 : ax.eval (.tmp 15) = .int .i64 q := hE.eval 15 (by rfl) rfl
                simp [go_sem, BigFrame.eval_const, BigFrame.eval_global, BigFrame.eval_func, ↓IntWalk.iteOmega, ev e15, hwa, hwb, hwq, hwu]
                with_reducible rfl
              apply Build.det 106 Ext.refl (by rfl) (by rfl) rfl
              case h =>   -- 5: t106 := Op.binOp BinOp.add 3 (tmp 105) (const (Value.int IntKind.i64 5)) 3
                intro ax wx hE hR hF
                have e105 : ax.eval (.tmp 105) = _ := hF 4 (det 105 _) (by decide) (.head _)
                simp [go_sem, BigFrame.eval_const, BigFrame.eval_global, BigFrame.eval_func, ↓IntWalk.iteOmega, ev e105, hwa, hwb, hwq, hwu]
                with_reducible rfl
              apply Build.det 107 Ext.refl (by rfl) (by rfl) rfl
              case h =>   -- 6: t107 := Op.convert 3 5 (tmp 106)
                intro ax wx hE hR hF
                have e106 : ax.eval (.tmp 106) = _ := hF 5 (det 106 _) (by decide) (.head _)
                simp [go_sem, BigFrame.eval_const, BigFrame.eval_global, BigFrame.eval_func, ↓IntWalk.iteOmega, ev e106, hwa, hwb, hwq, hwu]
                with_reducible rfl
              apply Build.call 108 Ext.refl (by rfl) (by rfl) rfl
              case h =>
                intro ax wx hE hR hF
                have e107 : ax.eval (.tmp 107) = _ := hF 6 (det 107 _) (by decide) (.head _)
                simp [go_sem, BigFrame.eval_const, BigFrame.eval_global, BigFrame.eval_func, ↓IntWalk.iteOmega, ev e107, hwa, hwb, hwq, hwu]
                with_reducible exact ⟨rfl, rfl⟩
              case hc => intro wx hR; with_reducible exact HD.out wx
              apply Build.det 109 Ext.refl (by rfl) (by rfl) rfl
              case h =>   -- 8: t109 := Op.binOp BinOp.add 9 (tmp 104) (tmp 108) 9
                intro ax wx hE hR hF
                have e104 : ax.eval (.tmp 104) = _ := hF 3 (det 104 _) (by decide) (mem4 (.head _))
                have e108 : ax.eval (.tmp 108) = _ := hF 7 (det 108 _) (by decide) (.head _)
                simp [go_sem, BigFrame.eval_const, BigFrame.eval_global, BigFrame.eval_func, ↓IntWalk.iteOmega, ev e104, ev e108, hwa, hwb, hwq, hwu, p1, sd]
                with_reducible rfl
              apply Build.det 110 Ext.refl (by rfl) (by rfl) rfl
              case h =>   -- 9: t110 := Op.move (tmp 9)
                intro ax wx hE hR hF
                have e9 : ax.eval (.tmp 9) = .string N := hE.eval 9 (by rfl) rfl
                simp [go_sem, BigFrame.eval_const, BigFrame.eval_global, BigFrame.eval_func, ↓IntWalk.iteOmega, ev e9, hwa, hwb, hwq, hwu]
                with_reducible rfl
              apply Build.det 111 Ext.refl (by rfl) (by rfl) rfl
              case h =>   -- 10: t111 := Op.move (tmp 16)
                intro ax wx hE hR hF
                have e16 : ax.eval (.tmp 16) = .int .i64 k := hE.eval 16 (by rfl) rfl
                simp [go_sem, BigFrame.eval_const, BigFrame.eval_global, BigFrame.eval_func, ↓IntWalk.iteOmega, ev e16, hwa, hwb, hwq, hwu]
                with_reducible rfl
              apply Build.det 112 Ext.refl (by rfl) (by rfl) rfl
              case h =>   -- 11: t112 := Op.binOp BinOp.mul 3 (const (Value.int IntKind.i64 16)) (tmp 111) 3
                intro ax wx hE hR hF
                have e111 : ax.eval (.tmp 111) = _ := hF 10 (det 111 _) (by decide) (.head _)
                simp [go_sem, BigFrame.eval_const, BigFrame.eval_global, BigFrame.eval_func, ↓IntWalk.iteOmega, ev e111, hwa, hwb, hwq, hwu]
                with_reducible rfl
              apply Build.det 113 Ext.refl (by rfl) (by rfl) rfl
              case h =>   -- 12: t113 := Op.binOp BinOp.add 3 (tmp 112) (const (Value.int IntKind.i64 16)) 3
                intro ax wx hE hR hF
                have e112 : ax.eval (.tmp 112) = _ := hF 11 (det 112 _) (by decide) (.head _)
                simp [go_sem, BigFrame.eval_const, BigFrame.eval_global, BigFrame.eval_func, ↓IntWalk.iteOmega, ev e112, hwa, hwb, hwq, hwu]
                with_reducible rfl
              apply Build.det 114 Ext.refl (by rfl) (by rfl) rfl
              case h =>   -- 13: t114 := Op.slice 9 (tmp 110) (some (tmp 113)) none none
                intro ax wx hE hR hF
                have e110 : ax.eval (.tmp 110) = _ := hF 9 (det 110 _) (by decide) (.tail _ (.tail _ (.tail _ (.head _))))
                have e113 : ax.eval (.tmp 113) = _ := hF 12 (det 113 _) (by decide) (.head _)
                simp [go_sem, BigFrame.eval_const, BigFrame.eval_global, BigFrame.eval_func, ↓IntWalk.iteOmega, ev e110, ev e113, hwa, hwb, hwq, hwu, sN, tb, hP2]
                with_reducible rfl
              apply Build.det 115 Ext.refl (by rfl) (by rfl) rfl
              case h =>   -- 14: t115 := Op.binOp BinOp.add 9 (tmp 109) (tmp 114) 9
                intro ax wx hE hR hF
                have e109 : ax.eval (.tmp 109) = _ := hF 8 (det 109 _) (by decide) (mem4 (.tail _ (.head _)))
                have e114 : ax.eval (.tmp 114) = _ := hF 13 (det 114 _) (by decide) (.head _)
                simp [go_sem, BigFrame.eval_const, BigFrame.eval_global, BigFrame.eval_func, ↓IntWalk.iteOmega, ev e109, ev e114, hwa, hwb, hwq, hwu, p1, sd, p2, hnx]
                with_reducible rfl
              apply Build.det 17 Ext.refl (by rfl) (by rfl) rfl
              case h =>   -- 15: t17 := Op.assign (tmp 115)
                intro ax wx hE hR hF
                have e115 : ax.eval (.tmp 115) = _ := hF 14 (det 115 _) (by decide) (.head _)
                simp [go_sem, BigFrame.eval_const, BigFrame.eval_global, BigFrame.eval_func, ↓IntWalk.iteOmega, ev e115, hwa, hwb, hwq, hwu]
                with_reducible rfl
              apply Build.stop
              refine ⟨by kernel_rfl, .inl ⟨rfl, ?_⟩⟩
              intro ax w2 hE R2 hF
              have e101 : ax.eval (.tmp 101) = _ := hF 0 (det 101 _) (mem4 (mem4 (mem4 (.tail _ (.tail _ (.tail _ (.head _)))))))
              have e102 : ax.eval (.tmp 102) = _ := hF 1 (det 102 _) (mem4 (mem4 (mem4 (.tail _ (.tail _ (.head _))))))
              have e103 : ax.eval (.tmp 103) = _ := hF 2 (det 103 _) (mem4 (mem4 (mem4 (.tail _ (.head _)))))
              have e104 : ax.eval (.tmp 104) = _ := hF 3 (det 104 _) (mem4 (mem4 (mem4 (.head _))))
              have e105 : ax.eval (.tmp 105) = _ := hF 4 (det 105 _) (mem4 (mem4 (.tail _ (.tail _ (.tail _ (.head _))))))
              have e106 : ax.eval (.tmp 106) = _ := hF 5 (det 106 _) (mem4 (mem4 (.tail _ (.tail _ (.head _)))))
              have e107 : ax.eval (.tmp 107) = _ := hF 6 (det 107 _) (mem4 (mem4 (.tail _ (.head _))))
              have e108 : ax.eval (.tmp 108) = _ := hF 7 (det 108 _) (mem4 (mem4 (.head _)))
              have e109 : ax.eval (.tmp 109) = _ := hF 8 (det 109 _) (mem4 (.tail _ (.tail _ (.tail _ (.head _)))))
              have e110 : ax.eval (.tmp 110) = _ := hF 9 (det 110 _) (mem4 (.tail _ (.tail _ (.head _))))
              have e111 : ax.eval (.tmp 111) = _ := hF 10 (det 111 _) (mem4 (.tail _ (.head _)))
              have e112 : ax.eval (.tmp 112) = _ := hF 11 (det 112 _) (mem4 (.head _))
              have e113 : ax.eval (.tmp 113) = _ := hF 12 (det 113 _) (.tail _ (.tail _ (.tail _ (.head _))))
              have e114 : ax.eval (.tmp 114) = _ := hF 13 (det 114 _) (.tail _ (.tail _ (.head _)))
              have e115 : ax.eval (.tmp 115) = _ := hF 14 (det 115 _) (.tail _ (.head _))
              have e17 : ax.eval (.tmp 17) = _ := hF 15 (det 17 _) (.head _)
              rw [AllEq.frame (D := [101, 102, 103, 104, 105, 106, 107, 108, 109, 110, 111, 112, 113, 114, 115, 17]) (AllEq.cons e101 (AllEq.cons e102 (AllEq.cons e103 (AllEq.cons e104 (AllEq.cons e105 (AllEq.cons e106 (AllEq.cons e107 (AllEq.cons e108 (AllEq.cons e109 (AllEq.cons e110 (AllEq.cons e111 (AllEq.cons e112 (AllEq.cons e113 (AllEq.cons e114 (AllEq.cons e115 (AllEq.cons e17 (AllEq.nil))))))))))))))))) hE rfl]
              clear hF hE e101 e102 e103 e104 e105 e106 e107 e108 e109 e110 e111 e112 e113 e114 e115 e17
              simp only [List.foldl_cons, List.foldl_nil, Act.put, List.setIfInBounds_toArray, List.set_cons_succ, List.set_cons_zero]
              have hEx2 := hEx.trans (R2.mono hEx.size)
              have hXX : (X.toList == X.toList) = true := by simp
              clear hP1 hP2 hnx p1 p2 sd hwa hwb tb hwq hwu HD R2 hEx hk
              go_wp2_with fail
              refine (HF.out.send _).mono ?_
              rintro e w3 ⟨rfl, R3⟩
              go_wp2_with fail
              refine (HF.out.take _).mono ?_
              rintro e w4 ⟨rfl, R4⟩
              have hEx4 : Ext w w4 := (Ext.trans hEx2 R3).trans R4
              clear R3 R4 hEx2
              by_cases hc : cX = cH
              · go_wp2_with fail
                refine (HF.out.other hc _).mono ?_
                rintro e wz ⟨rfl, Rz⟩
                have hEz := hEx4.trans Rz
                clear Rz hEx4
                by_cases hNX : X = N
                · have dNX : (X.toList == N.toList) = true := by rw [hNX]; simp
                  clear hNX hc
                  go_upto_region 30 with fail
                  obtain ⟨y, hy⟩ : ∃ y : Nat, Q1.size = y + 3 := ⟨Q1.size - 3, by omega⟩
                  obtain ⟨k2, hk2, hk2l⟩ := modU at_ (y : Int) (by omega) (by omega)
                  have hzy : (Q1.size : Int) - 3 = (y : Int) := by omega
                  have hky : k2 + 4 ≤ Q1.size := by omega
                  have hyb : y ≤ 2000 := by omega
                  have uy := u64w y (by omega)
                  have hzz := hEz.size
                  obtain ⟨c, hc1, hc2, hcv⟩ := conv_row Q1 wz (by unfold maxLen; omega)
                  have hQl : Q1.data.toList.length = Q1.size := by simp
                  obtain ⟨L, hL⟩ : ∃ L, Q1.data.toList = L := ⟨_, rfl⟩
                  rw [hL] at hcv hQl
                  have HL0 := Lib.hid hL
                  have HQL := Lib.hid hQl
                  have HY := Lib.hid hy
                  clear hy hk2l hL hQl dNX
                  go_wp2_with fail
                  clear hcv
                  try rw [hk2]
                  go_loopw [32] (fun i wr2 => ∃ j2 : Nat, j2 ≤ 4 ∧ i = .int .i64 j2 ∧ Bytes wr2 wz.heap.size (turnTo L k2 M j2) c ∧ Below w.heap.size w wr2) (fun i _ => 4 - (intOf i).toNat)
                  case atStart => exact ⟨0, by omega, rfl, Bytes.new_, (Below.drew hEz).alloc hzz _⟩
                  case round =>
                    clear hEz
                    obtain ⟨j2, hj2, rfl, hB, hb'⟩ := hrel
                    have Hlen := Lib.hid (show (turnTo L k2 M j2).length = Q1.size by rw [turnTo_length]; exact HQL.out)
                    by_cases hlt2 : j2 < 4
                    · have hd : turnTo L k2 M (j2 + 1) = (turnTo L k2 M j2).set (k2 + j2) ((turnTo L k2 M j2).getD (k2 + j2) 0 ^^^ UInt8.ofNat (M / 256 ^ j2)) := rfl
                      have hcell := hB.cell (i := k2 + j2) (by rw [Hlen.out]; omega)
                      have hfz := hB.frozen (i := k2 + j2) (by omega)
                      have hxt := xor_turn31 ((turnTo L k2 M j2).getD (k2 + j2) 0) M j2
                      have hset := hB.set_ (i := k2 + j2) (by rw [Hlen.out]; omega) ((turnTo L k2 M j2).getD (k2 + j2) 0 ^^^ UInt8.ofNat (M / 256 ^ j2))
                      rw [← hd] at hset
                      generalize (turnTo L k2 M j2).getD (k2 + j2) 0 = x at hcell hxt hset
                      generalize x ^^^ UInt8.ofNat (M / 256 ^ j2) = yy at hxt hset
                      clear hd
                      generalize hLj : turnTo L k2 M (j2 + 1) = L2 at hset
                      have HL := Lib.hid hLj
                      have Hset := Lib.hid hset
                      have i1 : ((k2 : Int) + j2) < (Q1.size : Int) := by omega
                      clear hLj hset hB
                      go_wp2_with fail
                      go_region
                      all_goals
                        go_wp2_with fail
                        go_roundw
                        case rel => exact ⟨j2 + 1, by omega, by go_num, by rw [HL.out]; exact Hset.out.drew, by (repeat (first | with_reducible exact Below.refl _ _ | with_reducible assumption | with_reducible apply Below.drew | with_reducible apply below_drewN | (with_reducible refine below_set ?_ ?_; focus ((try simp); (try omega); done)) | (with_reducible refine below_new ?_ ?_; focus ((try simp); (try omega); done))))⟩
                        case measure => simp [intOf]; omega
                    · obtain rfl : j2 = 4 := by omega
                      have hcv2 := hB.conv c Q1.size Hlen.out
                      obtain ⟨u, hu⟩ : ∃ u : ByteArray, (⟨(turnTo L k2 M 4).toArray⟩ : ByteArray) = u := ⟨_, rfl⟩
                      have hul : u.data.toList = turnTo L k2 M 4 := by rw [← hu]
                      rw [hu] at hcv2
                      by_cases hM0 : M = 0
                      · have huQ : u = Q1 := by
                          apply str_ext
                          rw [hul, hM0, turn_zero, HL0.out]
                        have hne : ((M : Int) == 0) = true := by rw [hM0]; rfl
                        subst huQ
                        clear hu hul hM0 hB
                        go_wp2_with fail
                        refine (HF.out.look _).mono ?_
                        rintro e w8 ⟨rfl, R8⟩
                        have hE9 := Ext.trans (Ext.trans hb' R8) (Ext.alloc w8 (.cells #[.int .i64 2, .int .i64 j, .int .u32 cH, .int .u32 cX] 44))
                        clear R8 hb'
                        go_wp2_with fail
                        go_roundw
                        case rel => exact ⟨q + 1, _, by omega, by rw [HX.out], by rw [HX.out], by go_num, hE9⟩
                        case measure => simp [intOf]; omega
                      · have HU := Lib.hid (HF.out.turned k2 M hky hM hM0 u (by rw [hul, HL0.out]))
                        have hne : ((M : Int) == 0) = false := by simp; exact hM0
                        clear hu hul hM0 hB
                        go_wp2_with fail
                        refine (HU.out _).mono ?_
                        rintro e w8 ⟨rfl, R8⟩
                        have hE9 := Ext.trans (Ext.trans hb' R8) (Ext.alloc w8 (.cells #[.int .i64 0, .int .i64 0, .int .u32 0, .int .u32 0] 44))
                        clear R8 hb'
                        go_wp2_with fail
                        go_roundw
                        case rel => exact ⟨q + 1, _, by omega, by rw [HX.out], by rw [HX.out], by go_num, hE9⟩
                        case measure => simp [intOf]; omega
                · have dNX : (X.toList == N.toList) = false := str_ne hNX
                  have HC := Lib.hid hc
                  clear hNX hc
                  have hz1 := hEz.size
                  go_wp2_with fail
                  refine (HF.out.look _).mono ?_
                  rintro e w6 ⟨rfl, R6⟩
                  have hX6 := Blk.new w6 44 #[.int .i64 2, .int .i64 j, .int .u32 cH, .int .u32 cX]
                  have E6 := R6.trans (Ext.alloc w6 (.cells #[.int .i64 2, .int .i64 j, .int .u32 cH, .int .u32 cX] 44))
                  have HX6 := Lib.hid hX6
                  clear hX6
                  go_wp2_with fail
                  refine (HF.out.send2 _).mono ?_
                  rintro e w7 ⟨rfl, R7⟩
                  go_wp2_with fail
                  refine (HF.out.look2 _).mono ?_
                  rintro e w8 ⟨rfl, R8⟩
                  have E8 := (E6.trans R7).trans (R8.trans (Ext.alloc w8 (.cells #[.int .i64 2, .int .i64 j, .int .u32 cX, .int .u32 cX] 44)))
                  have hX8 := ((HX6.out.ext R7).ext R8).alloc (.cells #[.int .i64 2, .int .i64 j, .int .u32 cX, .int .u32 cX] 44)
                  have hY8 := Blk.new w8 44 #[.int .i64 2, .int .i64 j, .int .u32 cX, .int .u32 cX]
                  have q6 := hX8.cell 2
                  have q8 := hY8.cell 2
                  have dC : ((cH : Int) != (cX : Int)) = false := by rw [bne_eq_false_iff_eq, HC.out]
                  have hEz8 := Ext.trans hEz E8
                  clear hX8 hY8 E8 E6 R6 R7 R8 HX6 hEz
                  go_upto_region 30 with fail
                  clear q6 q8 dC hz1
                  generalize w8.alloc (.cells #[.int .i64 2, .int .i64 j, .int .u32 cX, .int .u32 cX] 44) = wz at hEz8 ⊢
                  have hEz : Ext w wz := hEz8
                  clear hEz8
                  obtain ⟨y, hy⟩ : ∃ y : Nat, Q1.size = y + 3 := ⟨Q1.size - 3, by omega⟩
                  obtain ⟨k2, hk2, hk2l⟩ := modU at_ (y : Int) (by omega) (by omega)
                  have hzy : (Q1.size : Int) - 3 = (y : Int) := by omega
                  have hky : k2 + 4 ≤ Q1.size := by omega
                  have hyb : y ≤ 2000 := by omega
                  have uy := u64w y (by omega)
                  have hzz := hEz.size
                  obtain ⟨c, hc1, hc2, hcv⟩ := conv_row Q1 wz (by unfold maxLen; omega)
                  have hQl : Q1.data.toList.length = Q1.size := by simp
                  obtain ⟨L, hL⟩ : ∃ L, Q1.data.toList = L := ⟨_, rfl⟩
                  rw [hL] at hcv hQl
                  have HL0 := Lib.hid hL
                  have HQL := Lib.hid hQl
                  have HY := Lib.hid hy
                  clear hy hk2l hL hQl dNX
                  go_wp2_with fail
                  clear hcv
                  try rw [hk2]
                  go_loopw [32] (fun i wr2 => ∃ j2 : Nat, j2 ≤ 4 ∧ i = .int .i64 j2 ∧ Bytes wr2 wz.heap.size (turnTo L k2 M j2) c ∧ Below w.heap.size w wr2) (fun i _ => 4 - (intOf i).toNat)
                  case atStart => exact ⟨0, by omega, rfl, Bytes.new_, (Below.drew hEz).alloc hzz _⟩
                  case round =>
                    clear hEz
                    obtain ⟨j2, hj2, rfl, hB, hb'⟩ := hrel
                    have Hlen := Lib.hid (show (turnTo L k2 M j2).length = Q1.size by rw [turnTo_length]; exact HQL.out)
                    by_cases hlt2 : j2 < 4
                    · have hd : turnTo L k2 M (j2 + 1) = (turnTo L k2 M j2).set (k2 + j2) ((turnTo L k2 M j2).getD (k2 + j2) 0 ^^^ UInt8.ofNat (M / 256 ^ j2)) := rfl
                      have hcell := hB.cell (i := k2 + j2) (by rw [Hlen.out]; omega)
                      have hfz := hB.frozen (i := k2 + j2) (by omega)
                      have hxt := xor_turn31 ((turnTo L k2 M j2).getD (k2 + j2) 0) M j2
                      have hset := hB.set_ (i := k2 + j2) (by rw [Hlen.out]; omega) ((turnTo L k2 M j2).getD (k2 + j2) 0 ^^^ UInt8.ofNat (M / 256 ^ j2))
                      rw [← hd] at hset
                      generalize (turnTo L k2 M j2).getD (k2 + j2) 0 = x at hcell hxt hset
                      generalize x ^^^ UInt8.ofNat (M / 256 ^ j2) = yy at hxt hset
                      clear hd
                      generalize hLj : turnTo L k2 M (j2 + 1) = L2 at hset
                      have HL := Lib.hid hLj
                      have Hset := Lib.hid hset
                      have i1 : ((k2 : Int) + j2) < (Q1.size : Int) := by omega
                      clear hLj hset hB
                      go_wp2_with fail
                      go_region
                      all_goals
                        go_wp2_with fail
                        go_roundw
                        case rel => exact ⟨j2 + 1, by omega, by go_num, by rw [HL.out]; exact Hset.out.drew, by (repeat (first | with_reducible exact Below.refl _ _ | with_reducible assumption | with_reducible apply Below.drew | with_reducible apply below_drewN | (with_reducible refine below_set ?_ ?_; focus ((try simp); (try omega); done)) | (with_reducible refine below_new ?_ ?_; focus ((try simp); (try omega); done))))⟩
                        case measure => simp [intOf]; omega
                    · obtain rfl : j2 = 4 := by omega
                      have hcv2 := hB.conv c Q1.size Hlen.out
                      obtain ⟨u, hu⟩ : ∃ u : ByteArray, (⟨(turnTo L k2 M 4).toArray⟩ : ByteArray) = u := ⟨_, rfl⟩
                      have hul : u.data.toList = turnTo L k2 M 4 := by rw [← hu]
                      rw [hu] at hcv2
                      by_cases hM0 : M = 0
                      · have huQ : u = Q1 := by
                          apply str_ext
                          rw [hul, hM0, turn_zero, HL0.out]
                        have hne : ((M : Int) == 0) = true := by rw [hM0]; rfl
                        subst huQ
                        clear hu hul hM0 hB
                        go_wp2_with fail
                        refine (HF.out.look _).mono ?_
                        rintro e w8 ⟨rfl, R8⟩
                        have hE9 := Ext.trans (Ext.trans hb' R8) (Ext.alloc w8 (.cells #[.int .i64 2, .int .i64 j, .int .u32 cH, .int .u32 cX] 44))
                        clear R8 hb'
                        go_wp2_with fail
                        go_roundw
                        case rel => exact ⟨q + 1, _, by omega, by rw [HX.out], by rw [HX.out], by go_num, hE9⟩
                        case measure => simp [intOf]; omega
                      · have HU := Lib.hid (HF.out.turned k2 M hky hM hM0 u (by rw [hul, HL0.out]))
                        have hne : ((M : Int) == 0) = false := by simp; exact hM0
                        clear hu hul hM0 hB
                        go_wp2_with fail
                        refine (HU.out _).mono ?_
                        rintro e w8 ⟨rfl, R8⟩
                        have hE9 := Ext.trans (Ext.trans hb' R8) (Ext.alloc w8 (.cells #[.int .i64 0, .int .i64 0, .int .u32 0, .int .u32 0] 44))
                        clear R8 hb'
                        go_wp2_with fail
                        go_roundw
                        case rel => exact ⟨q + 1, _, by omega, by rw [HX.out], by rw [HX.out], by go_num, hE9⟩
                        case measure => simp [intOf]; omega
              · go_wp2_with fail
                refine (HF.out.other_no hc _).mono ?_
                rintro e wz ⟨rfl, Rz⟩
                have hEz := hEx4.trans Rz
                clear Rz hEx4
                have hNX : ¬ X = N := fun h => hc (HF.out.eqc h.symm)
                have dNX : (X.toList == N.toList) = false := str_ne hNX
                clear hNX hc
                go_upto_region 30 with fail
                obtain ⟨y, hy⟩ : ∃ y : Nat, Q1.size = y + 3 := ⟨Q1.size - 3, by omega⟩
                obtain ⟨k2, hk2, hk2l⟩ := modU at_ (y : Int) (by omega) (by omega)
                have hzy : (Q1.size : Int) - 3 = (y : Int) := by omega
                have hky : k2 + 4 ≤ Q1.size := by omega
                have hyb : y ≤ 2000 := by omega
                have uy := u64w y (by omega)
                have hzz := hEz.size
                obtain ⟨c, hc1, hc2, hcv⟩ := conv_row Q1 wz (by unfold maxLen; omega)
                have hQl : Q1.data.toList.length = Q1.size := by simp
                obtain ⟨L, hL⟩ : ∃ L, Q1.data.toList = L := ⟨_, rfl⟩
                rw [hL] at hcv hQl
                have HL0 := Lib.hid hL
                have HQL := Lib.hid hQl
                have HY := Lib.hid hy
                clear hy hk2l hL hQl dNX
                go_wp2_with fail
                clear hcv
                try rw [hk2]
                go_loopw [32] (fun i wr2 => ∃ j2 : Nat, j2 ≤ 4 ∧ i = .int .i64 j2 ∧ Bytes wr2 wz.heap.size (turnTo L k2 M j2) c ∧ Below w.heap.size w wr2) (fun i _ => 4 - (intOf i).toNat)
                case atStart => exact ⟨0, by omega, rfl, Bytes.new_, (Below.drew hEz).alloc hzz _⟩
                case round =>
                  clear hEz
                  obtain ⟨j2, hj2, rfl, hB, hb'⟩ := hrel
                  have Hlen := Lib.hid (show (turnTo L k2 M j2).length = Q1.size by rw [turnTo_length]; exact HQL.out)
                  by_cases hlt2 : j2 < 4
                  · have hd : turnTo L k2 M (j2 + 1) = (turnTo L k2 M j2).set (k2 + j2) ((turnTo L k2 M j2).getD (k2 + j2) 0 ^^^ UInt8.ofNat (M / 256 ^ j2)) := rfl
                    have hcell := hB.cell (i := k2 + j2) (by rw [Hlen.out]; omega)
                    have hfz := hB.frozen (i := k2 + j2) (by omega)
                    have hxt := xor_turn31 ((turnTo L k2 M j2).getD (k2 + j2) 0) M j2
                    have hset := hB.set_ (i := k2 + j2) (by rw [Hlen.out]; omega) ((turnTo L k2 M j2).getD (k2 + j2) 0 ^^^ UInt8.ofNat (M / 256 ^ j2))
                    rw [← hd] at hset
                    generalize (turnTo L k2 M j2).getD (k2 + j2) 0 = x at hcell hxt hset
                    generalize x ^^^ UInt8.ofNat (M / 256 ^ j2) = yy at hxt hset
                    clear hd
                    generalize hLj : turnTo L k2 M (j2 + 1) = L2 at hset
                    have HL := Lib.hid hLj
                    have Hset := Lib.hid hset
                    have i1 : ((k2 : Int) + j2) < (Q1.size : Int) := by omega
                    clear hLj hset hB
                    go_wp2_with fail
                    go_region
                    all_goals
                      go_wp2_with fail
                      go_roundw
                      case rel => exact ⟨j2 + 1, by omega, by go_num, by rw [HL.out]; exact Hset.out.drew, by (repeat (first | with_reducible exact Below.refl _ _ | with_reducible assumption | with_reducible apply Below.drew | with_reducible apply below_drewN | (with_reducible refine below_set ?_ ?_; focus ((try simp); (try omega); done)) | (with_reducible refine below_new ?_ ?_; focus ((try simp); (try omega); done))))⟩
                      case measure => simp [intOf]; omega
                  · obtain rfl : j2 = 4 := by omega
                    have hcv2 := hB.conv c Q1.size Hlen.out
                    obtain ⟨u, hu⟩ : ∃ u : ByteArray, (⟨(turnTo L k2 M 4).toArray⟩ : ByteArray) = u := ⟨_, rfl⟩
                    have hul : u.data.toList = turnTo L k2 M 4 := by rw [← hu]
                    rw [hu] at hcv2
                    by_cases hM0 : M = 0
                    · have huQ : u = Q1 := by
                        apply str_ext
                        rw [hul, hM0, turn_zero, HL0.out]
                      have hne : ((M : Int) == 0) = true := by rw [hM0]; rfl
                      subst huQ
                      clear hu hul hM0 hB
                      go_wp2_with fail
                      refine (HF.out.look _).mono ?_
                      rintro e w8 ⟨rfl, R8⟩
                      have hE9 := Ext.trans (Ext.trans hb' R8) (Ext.alloc w8 (.cells #[.int .i64 2, .int .i64 j, .int .u32 cH, .int .u32 cX] 44))
                      clear R8 hb'
                      go_wp2_with fail
                      go_roundw
                      case rel => exact ⟨q + 1, _, by omega, by rw [HX.out], by rw [HX.out], by go_num, hE9⟩
                      case measure => simp [intOf]; omega
                    · have HU := Lib.hid (HF.out.turned k2 M hky hM hM0 u (by rw [hul, HL0.out]))
                      have hne : ((M : Int) == 0) = false := by simp; exact hM0
                      clear hu hul hM0 hB
                      go_wp2_with fail
                      refine (HU.out _).mono ?_
                      rintro e w8 ⟨rfl, R8⟩
                      have hE9 := Ext.trans (Ext.trans hb' R8) (Ext.alloc w8 (.cells #[.int .i64 0, .int .i64 0, .int .u32 0, .int .u32 0] 44))
                      clear R8 hb'
                      go_wp2_with fail
                      go_roundw
                      case rel => exact ⟨q + 1, _, by omega, by rw [HX.out], by rw [HX.out], by go_num, hE9⟩
                      case measure => simp [intOf]; omega
            · rcases (show ¬ q < len' ∨ (q < len' ∧ j = 0) by omega) with hq0 | ⟨hq0, hj0⟩
              · obtain rfl : q = len' := by omega
                go_wp2_with fail
                go_ret
                exact ⟨rfl, hEx⟩
              · subst hj0
                go_wp2_with fail
                go_ret
                exact ⟨rfl, hEx⟩
theorem shipBack_walk (w : World) (v0 v1 v2 v3 : Value) (h0 : Arg Try.prog w 22 v0) (h1 : Arg Try.prog w 53 v1) (h2 : Arg Try.prog w 3 v2) (h3 : Arg Try.prog w 38 v3) :
    Calls Try.prog 6 #[v0, v1, v2, v3] w fun e w' => e = .returned (.bool true) ∧ Below w.heap.size w w' := by
  obtain ⟨A, len, cap, xs, rfl, g2, g3, g4, g5⟩ := arg_bytes h0
  obtain ⟨A', len', cap', ss, rfl, k1, k2, k3, k4, k5⟩ := arg_ints Try.underlying53 Try.underlying3 (by kernel_rfl) h1
  obtain ⟨a, rfl, _⟩ := arg_int Try.underlying3 h2
  obtain ⟨m, rfl, wm⟩ := arg_int Try.underlying38 h3
  obtain ⟨m0, m1⟩ := bounds_u32 wm
  obtain ⟨M, rfl⟩ := Int.eq_ofNat_of_zero_le m0
  exact shipBack_core A A' len cap len' cap' xs ss a M w g3 k3 g2 (by omega) g4 g5 k5 (by omega)
end Go.Proofs.Ytoiifcmjmjkcaaa
