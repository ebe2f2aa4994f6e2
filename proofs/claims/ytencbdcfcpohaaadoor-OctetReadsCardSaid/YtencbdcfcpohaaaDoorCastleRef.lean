/- The walks of castle's reference: Sum, Seal, Open; tierceref01's Bytes. -/
import Derived.Test.YtencbdcfcpohaaaDoorCastle
import Derived.Lib.SmallJoins
namespace Go.Proofs.YtencbdcfcpohaaaDoor
set_option linter.unusedVariables false
set_option linter.unusedSimpArgs false
open Go.RowKit

theorem index_byte (s : ByteArray) (k : Nat) (h : k < s.size) : s[k] = s.data.toList.getD k 0 := by
  have hd : k < s.data.size := h
  have e : s[k] = s.data[k] := rfl
  rw [e]
  simp [List.getD, Array.getElem?_eq_getElem hd]

theorem bit_u32 (Y B j : Nat) (hY : Y < 4294967296) (hB : B < 256) : bits .xor .u32 (bits .and .u32 (Y : Int) 1) (bits .and .u32 ((B : Int) / 2 ^ j % 4294967296) 1) = (((Y ^^^ (B / 2 ^ j)) % 2 : Nat) : Int) := by
  have h1 : ((B : Int) / 2 ^ j % 4294967296) = ((B / 2 ^ j : Nat) : Int) := by
    have : B / 2 ^ j ≤ B := Nat.div_le_self _ _
    have e : ((B : Int) / 2 ^ j) = ((B / 2 ^ j : Nat) : Int) := by simp
    rw [e]
    generalize B / 2 ^ j = q at this ⊢
    omega
  have h2 : B / 2 ^ j < 4294967296 := by have : B / 2 ^ j ≤ B := Nat.div_le_self _ _; omega
  rw [h1, and1_u32 _ hY, and1_u32 _ h2, xor_u32 _ _ (by omega) (by omega), xor_par]
  rcases Nat.mod_two_eq_zero_or_one Y with hy | hy <;> rcases Nat.mod_two_eq_zero_or_one (B / 2 ^ j) with hb | hb <;> rw [hy, hb] <;> decide

set_option maxRecDepth 10000 in
set_option maxHeartbeats 1000000 in
theorem rsum_any (s : ByteArray) (w : World) (hs : s.size ≤ 140737488355328) :
    Calls Tryd.prog 65 #[.string s] w fun e w' => e = .returned (.int .u32 (crcSum s.data.toList)) ∧ w = w' := by
  go_enter Tryd.func65, Tryd.ntmps65
  go_wp2_with fail
  go_loop [3, 4] (fun x i => ∃ (k X : Nat), k ≤ s.size ∧ i = .int .i64 k ∧ x = .int .u32 X ∧ X < 4294967296 ∧ Hid (X = crcState 4294967295 (s.data.toList.take k))) (fun _ i => s.size - (intOf i).toNat)
  case atStart => exact ⟨0, 4294967295, by omega, rfl, rfl, by omega, by simp [Hid, crcState]⟩
  case round =>
    obtain ⟨k, X, hk, rfl, rfl, hX, HX⟩ := hrel
    by_cases hlt : k < s.size
    · have HS := Lib.hid (crc_snoc s k hlt)
      have hb := (s.data.toList.getD k 0).toNat_lt
      go_wp2_with fail
      go_loop [3, 5] (fun x i => ∃ (j Y : Nat), j ≤ 8 ∧ i = .int .i64 j ∧ x = .int .u32 Y ∧ Y < 4294967296 ∧ Hid (Y ^^^ ((s.data.toList.getD k 0).toNat / 2 ^ j) = crcIt j (X ^^^ (s.data.toList.getD k 0).toNat))) (fun _ i => 8 - (intOf i).toNat)
      case atStart => exact ⟨0, X, by omega, rfl, rfl, hX, by simp [Hid, crcIt]⟩
      case round =>
        obtain ⟨j, Y, hj, rfl, rfl, hY, HY⟩ := hrel
        by_cases hlt2 : j < 8
        · have hbt := (s[k]'hlt).toNat_lt
          have eb := bit_u32 Y (s[k]'hlt).toNat j hY hbt
          have hkb : (s[k]'hlt).toNat = (s.data.toList.getD k 0).toNat := by rw [index_byte s k hlt]
          have hdj : (s.data.toList.getD k 0).toNat / 2 ^ j / 2 = (s.data.toList.getD k 0).toNat / 2 ^ (j + 1) := by rw [Nat.div_div_eq_div_mul, Nat.pow_succ]
          have HK := Lib.hid hkb
          have HD := Lib.hid hdj
          clear hkb hdj
          by_cases hp : (Y ^^^ ((s[k]'hlt).toNat / 2 ^ j)) % 2 = 1
          · rw [hp] at eb
            obtain ⟨Z, hZ⟩ : ∃ Z, Z = (Y / 2) ^^^ 2197175160 := ⟨_, rfl⟩
            have hZ1 : Z < 4294967296 := by rw [hZ]; exact Nat.xor_lt_two_pow (n := 32) (by omega) (by decide)
            have e2 : bits .xor .u32 ((Y : Int) / 2) 2197175160 = (Z : Int) := by
              rw [hZ, ← xor_u32 (Y / 2) 2197175160 (by omega) (by decide), show ((Y / 2 : Nat) : Int) = (Y : Int) / 2 by omega]
              rfl
            have HZ := Lib.hid hZ
            have HP := Lib.hid hp
            clear hZ hp
            go_wp2_with fail
            go_round
            case rel =>
              refine ⟨j + 1, Z, by omega, by go_num, rfl, hZ1, ?_⟩
              have hp := HP.out
              rw [HK.out] at hp
              show Z ^^^ ((s.data.toList.getD k 0).toNat / 2 ^ (j + 1)) = crcT (crcIt j (X ^^^ (s.data.toList.getD k 0).toNat))
              rw [← HY.out, crcT, if_pos hp, HZ.out, xor_half, HD.out, Nat.xor_assoc, Nat.xor_assoc, Nat.xor_comm 2197175160]
            case measure => simp [intOf]; omega
          · have hp0 : (Y ^^^ ((s[k]'hlt).toNat / 2 ^ j)) % 2 = 0 := by omega
            rw [hp0] at eb
            have HP := Lib.hid hp
            clear hp hp0
            go_wp2_with fail
            go_round
            case rel =>
              refine ⟨j + 1, Y / 2, by omega, by go_num, by go_num, by omega, ?_⟩
              have hp := HP.out
              rw [HK.out] at hp
              show Y / 2 ^^^ ((s.data.toList.getD k 0).toNat / 2 ^ (j + 1)) = crcT (crcIt j (X ^^^ (s.data.toList.getD k 0).toNat))
              rw [← HY.out, crcT, if_neg hp, xor_half, HD.out]
            case measure => simp [intOf]; omega
        · obtain rfl : j = 8 := by omega
          have hfin : Y = crcStep X (s.data.toList.getD k 0).toNat := by
            have h := HY.out
            rw [show (s.data.toList.getD k 0).toNat / 2 ^ 8 = 0 by omega, Nat.xor_zero] at h
            exact h
          have HF := Lib.hid hfin
          clear hfin
          go_wp2_with fail
          go_round
          case rel => exact ⟨k + 1, Y, by omega, by go_num, rfl, hY, by show _ = _; rw [HS.out, ← HX.out, HF.out]⟩
          case measure => simp [intOf]; omega
    · obtain rfl : k = s.size := by omega
      have e1 : bits .xor .u32 (X : Int) 4294967295 = ((crcSum s.data.toList : Nat) : Int) := by
        have h1 := xor_u32 X 4294967295 hX (by decide)
        have h2 : X ^^^ 4294967295 = crcSum s.data.toList := by
          rw [HX.out, List.take_of_length_le (by simp)]; rfl
        rw [h2] at h1
        exact h1
      generalize hZ : crcSum s.data.toList = Z at e1 ⊢
      have HZ := Lib.hid hZ
      clear hZ
      go_wp2_with fail
      go_ret
      exact ⟨ret_int (by rw [HZ.out]), rfl⟩

theorem rsize_any (n : Int) (w : World) : Calls Tryd.prog 21 #[.int .i64 n] w fun e w' => e = .returned (.int .i64 (clampSize n)) ∧ w = w' := by
  go_enter Tryd.func21, Tryd.ntmps21
  by_cases h0 : n < 1
  · go_wp2
    all_goals
      go_ret
      exact ⟨ret_int (by unfold clampSize; omega), rfl⟩
  · by_cases h8 : 8 < n
    · go_wp2
      all_goals
        go_ret
        exact ⟨ret_int (by unfold clampSize; omega), rfl⟩
    · go_wp2
      all_goals
        go_ret
        exact ⟨ret_int (by unfold clampSize; omega), rfl⟩

theorem byte_shift (n j : Nat) : (n : Int) / 2 ^ (8 * j) % 256 = ((UInt8.ofNat (n / 256 ^ j)).toNat : Int) := by
  have e : (2 : Nat) ^ (8 * j) = 256 ^ j := by rw [Nat.pow_mul]
  have e2 : ((n : Int) / 2 ^ (8 * j)) = ((n / 256 ^ j : Nat) : Int) := by rw [← e]; simp
  rw [e2]
  simp

set_option maxRecDepth 10000 in
set_option maxHeartbeats 1000000 in
theorem rbytes_any (n : Nat) (size : Int) (w : World) (hn : n < 18446744073709551616) :
    Calls Tryd.prog 12 #[.int .u64 n, .int .i64 size] w fun e w' => e = .returned (.string ⟨(le n (clampSize size)).toArray⟩) ∧ Below w.heap.size w w' := by
  have hk8 : clampSize size ≤ 8 := by unfold clampSize; omega
  go_enter Tryd.func12, Tryd.ntmps12
  go_wp2_with fail
  obtain ⟨i0, hi, hz0, hz1, hz2⟩ := info_parts infoByte
  go_loopg [5, 6] (clampSize size) (fun m v i wr => ∃ (j : Nat), j + m = clampSize size ∧ i = .int .i64 j ∧ wr.ownsRowF w.heap.size 5 1 v j (Lib.byteCells (le n j)) ∧ Below w.heap.size w wr)
  case atStart => exact ⟨0, by omega, rfl, ⟨rfl, .inr ⟨w.heap.size, 0, #[], (0, 0), rfl, Nat.le_refl _, heap_alloc_new w _, by simp, by simp, by unfold maxLen; simp, rfl, rfl⟩⟩, by (repeat (first | with_reducible exact Below.refl _ _ | with_reducible assumption | with_reducible apply Below.drew | with_reducible apply below_drewN | (with_reducible refine below_set ?_ ?_; focus ((try simp); (try omega); done)) | (with_reducible refine below_new ?_ ?_; focus ((try simp); (try omega); done))))⟩
  case round =>
    obtain ⟨j, hj, rfl, hown, hb⟩ := hrel
    have Hj := Lib.hid hj
    by_cases hlt : j < clampSize size
    · have hj8 : j < 8 := by omega
      have e1 := byte_shift n j
      have hd : le n (j + 1) = le n j ++ [UInt8.ofNat (n / 256 ^ j)] := rfl
      have Hd := Lib.hid hd
      generalize UInt8.ofNat (n / 256 ^ j) = c at e1 Hd
      have hcell : Lib.byteCells (le n j ++ [c]) = Lib.byteCells (le n j) ++ [.int .u8 (c.toNat : Int)] := by simp [Lib.byteCells]
      have Hcell := Lib.hid hcell
      generalize hk : clampSize size = k at hlt hk8 hj
      clear hj hd hcell
      go_wp2_with (first
        | (go_at_call 21; refine (rsize_any _ _).mono ?_; rintro e w5 ⟨rfl, rfl⟩)
        | (at_builtin; refine wp_buf_cells _ rfl _ _ 26 rfl w.heap.size 5 i0 (.int .u8 0) 1 1 Tryd.underlying26 hi hz0 hz1 hz2 rfl (by decide) _ _ _ rfl (hown.alloc _) ⟨wr.heap.size, 0, none⟩ 1 1 [.int .u8 c.toNat] rfl rfl ?c1 ?c2 ?c3 ?c4 ?c5 ?_))
      case c1 =>
        intro j u hj
        match j, hj with
        | 0, hj => simp at hj; subst hj; simp [Addr.add]
      case c2 => intro u hu; simp at hu; subst hu; rfl
      case c3 => unfold maxLen; omega
      case c4 => omega
      case c5 => have := hb.size; simp; omega
      intro v' w2 hown' hgrow _
      rw [← Hcell.out, ← Hd.out] at hown'
      have hb2 : Below w.heap.size w w2 := (hb.alloc hb.size _).grown hgrow (by have := hb.size; simp; omega) (fun k hk => (hown.lt k hk).1)
      clear hown hb e1 Hd Hcell hgrow
      go_wp2_with fail
      go_roundg (gk - 1)
      case measure => have := Hj.out; omega
      case rel => exact ⟨j + 1, by have := Hj.out; omega, by go_num, hown', hb2⟩
    · have hj' : j = clampSize size := by omega
      have hpos : 0 < j := by rw [hj']; unfold clampSize; omega
      have HJ := Lib.hid hj'
      clear hj' hj
      have hex : ∃ g cap, u5 = .slice (some ⟨g, 0, none⟩) j cap := by
        rcases hown.2 with ⟨_, h0⟩ | ⟨g, cap, _, _, hv, _⟩
        · omega
        · exact ⟨g, cap, hv⟩
      obtain ⟨g, cap, rfl⟩ := hex
      have hcv := conv_string wr g 0 cap (le n j) j (le_length n j) (fun i hi => by
        have := hown.cells (g := g) rfl i (.int .u8 ((le n j).getD i 0).toNat) (by
          have hil : i < (le n j).length := by rw [le_length]; exact hi
          simp [Lib.byteCells, List.getD, List.getElem?_eq_getElem hil])
        rw [Nat.zero_add]
        unfold Addr.add at this
        split at this
        · rename_i h0; subst h0; exact this
        · simpa using this)
      clear hown
      have hnlt : ¬ j < clampSize size := by rw [← HJ.out]; omega
      generalize hk : clampSize size = k at hnlt hk8
      clear hk
      go_wp2_with (go_at_call 21; refine (rsize_any _ _).mono ?_; rintro e w5 ⟨rfl, rfl⟩)
      go_ret
      exact ⟨by rw [HJ.out]; rfl, hb⟩

theorem mk_append (a b : List UInt8) : (⟨a.toArray⟩ : ByteArray) ++ ⟨b.toArray⟩ = ⟨(a ++ b).toArray⟩ := by
  apply str_ext
  simp

set_option maxHeartbeats 1000000 in
theorem rseal_any (s q : ByteArray) (w : World) (hs : s.size ≤ 1099511627776) (hq : (⟨(sealL s.data.toList).toArray⟩ : ByteArray) = q) :
    Calls Tryd.prog 46 #[.string s] w fun e w' => e = .returned (.string q) ∧ Below w.heap.size w w' := by
  have hlt := crcSum_lt s.data.toList
  obtain ⟨T, hT⟩ : ∃ T : ByteArray, (⟨(le (crcSum s.data.toList) (clampSize 4)).toArray⟩ : ByteArray) = T := ⟨_, rfl⟩
  have hTs : T.size ≤ 8 := by
    rw [← hT]
    show (le _ (clampSize 4)).toArray.size ≤ 8
    rw [List.size_toArray, le_length]
    decide
  have hcat : s ++ T = q := by
    rw [← hq, ← hT]
    apply str_ext
    rw [Joins.data_append]
    rfl
  generalize hZ : crcSum s.data.toList = Z at hlt hT
  have HZ := Lib.hid hZ
  clear hZ hq
  have H2 : ∀ W : World, Calls Tryd.prog 12 #[.int .u64 Z, .int .i64 4] W fun e w' => e = .returned (.string T) ∧ Below W.heap.size W w' := by
    intro W
    rw [← hT]
    exact rbytes_any Z 4 W (by omega)
  have H2' := Lib.hid H2
  clear H2 hT
  have H1 : ∀ W : World, Calls Tryd.prog 65 #[.string s] W fun e w' => e = .returned (.int .u32 Z) ∧ W = w' := by
    intro W
    rw [← HZ.out]
    exact rsum_any s W (by omega)
  have H1' := Lib.hid H1
  clear H1
  go_enter Tryd.func46, Tryd.ntmps46
  go_wp2_with fail
  refine (H1'.out _).mono ?_
  rintro e w1 ⟨rfl, rfl⟩
  go_wp2_with fail
  refine (H2'.out _).mono ?_
  rintro e w1 ⟨rfl, hb⟩
  go_wp2_with fail
  go_ret
  exact ⟨rfl, hb⟩

theorem below_then {w a b : World} (h : Below w.heap.size w a) (k : Below a.heap.size a b) : Below w.heap.size w b := h.trans (k.mono h.size)
end Go.Proofs.YtencbdcfcpohaaaDoor
