/- The walks of castle's reference: Sum, Seal, Open; tierceref01's Bytes. -/
import Derived.Test.YtoiifcmjmjkcaaaKShipBack01
import Derived.Lib.SmallJoins
import Derived.Test.YtoiifcmjmjkcaaaKShipBack00
namespace Go.Proofs.Ytoiifcmjmjkcaaa
set_option linter.unusedVariables false
set_option linter.unusedSimpArgs false
open Go.RowKit

theorem index_byte (s : ByteArray) (k : Nat) (h : k < s.size) : s[k] = s.data.toList.getD k 0 := by
  have hd : k < s.data.size := h
  have e : s[k] = s.data[k] := rfl
  rw [e]
  simp [List.getD, Array.getElem?_eq_getElem hd]

theorem bit_u32 (Y B j : Nat) (hY : Y < 4294967296) (hB : B < 256) : bits .xor .u32 (bits .and .u32 (Y : Int) 1) (bits .and .u32 ((B : Int) / 2 ^ j % 4294967296) 1) = (((Y ^^^ (B / 2 ^ j)) % 2 : Nat) : Int) := by
  have h1 : ((B : Int) / 2 ^ j % 4294967296) = ((B / 2 ^ j : Nat) : Int) := by
    have : B / 2 ^ j ≤ B := Nat.div_le_self _ _
    have e : ((B : Int) / 2 ^ j) = ((B / 2 ^ j : Nat) : Int) := by simp
    rw [e]
    generalize B / 2 ^ j = q at this ⊢
    omega
  have h2 : B / 2 ^ j < 4294967296 := by have : B / 2 ^ j ≤ B := Nat.div_le_self _ _; omega
  rw [h1, and1_u32 _ hY, and1_u32 _ h2, xor_u32 _ _ (by omega) (by omega), xor_par]
  rcases Nat.mod_two_eq_zero_or_one Y with hy | hy <;> rcases Nat.mod_two_eq_zero_or_one (B / 2 ^ j) with hb | hb <;> rw [hy, hb] <;> decide

set_option maxRecDepth 10000 in
set_option maxHeartbeats 1000000 in
theorem rsum_any (s : ByteArray) (w : World) (hs : s.size ≤ 140737488355328) :
    Calls Try.prog 33 #[.string s] w fun e w' => e = .returned (.int .u32 (crcSum s.data.toList)) ∧ w = w' := by
  go_enter Try.func33, Try.ntmps33
  go_wp2_with fail
  go_loop [3, 4] (fun x i => ∃ (k X : Nat), k ≤ s.size ∧ i = .int .i64 k ∧ x = .int .u32 X ∧ X < 4294967296 ∧ Hid (X = crcState 4294967295 (s.data.toList.take k))) (fun _ i => s.size - (intOf i).toNat)
  case atStart => exact ⟨0, 4294967295, by omega, rfl, rfl, by omega, by simp [Hid, crcState]⟩
  case round =>
    obtain ⟨k, X, hk, rfl, rfl, hX, HX⟩ := hrel
    by_cases hlt : k < s.size
    · have HS := Lib.hid (crc_snoc s k hlt)
      have hb := (s.data.toList.getD k 0).toNat_lt
      go_wp2_with fail
      go_loop [3, 5] (fun x i => ∃ (j Y : Nat), j ≤ 8 ∧ i = .int .i64 j ∧ x = .int .u32 Y ∧ Y < 4294967296 ∧ Hid (Y ^^^ ((s.data.toList.getD k 0).toNat / 2 ^ j) = crcIt j (X ^^^ (s.data.toList.getD k 0).toNat))) (fun _ i => 8 - (intOf i).toNat)
      case atStart => exact ⟨0, X, by omega, rfl, rfl, hX, by simp [Hid, crcIt]⟩
      case round =>
        obtain ⟨j, Y, hj, rfl, rfl, hY, HY⟩ := hrel
        by_cases hlt2 : j < 8
        · have hbt := (s[k]'hlt).toNat_lt
          have eb := bit_u32 Y (s[k]'hlt).toNat j hY hbt
          have hkb : (s[k]'hlt).toNat = (s.data.toList.getD k 0).toNat := by rw [index_byte s k hlt]
          have hdj : (s.data.toList.getD k 0).toNat / 2 ^ j / 2 = (s.data.toList.getD k 0).toNat / 2 ^ (j + 1) := by rw [Nat.div_div_eq_div_mul, Nat.pow_succ]
          have HK := Lib.hid hkb
          have HD := Lib.hid hdj
          clear hkb hdj
          by_cases hp : (Y ^^^ ((s[k]'hlt).toNat / 2 ^ j)) % 2 = 1
          · rw [hp] at eb
            obtain ⟨Z, hZ⟩ : ∃ Z, Z = (Y / 2) ^^^ 2197175160 := ⟨_, rfl⟩
            have hZ1 : Z < 4294967296 := by rw [hZ]; exact Nat.xor_lt_two_pow (n := 32) (by omega) (by decide)
            have e2 : bits .xor .u32 ((Y : Int) / 2) 2197175160 = (Z : Int) := by
              rw [hZ, ← xor_u32 (Y / 2) 2197175160 (by omega) (by decide), show ((Y / 2 : Nat) : Int) = (Y : Int) / 2 by omega]
              rfl
            have HZ := Lib.hid hZ
            have HP := Lib.hid hp
            clear hZ hp
            go_wp2_with fail
            go_round
            case rel =>
              refine ⟨j + 1, Z, by omega, by go_num, rfl, hZ1, ?_⟩
              have hp := HP.out
              rw [HK.out] at hp
              show Z ^^^ ((s.data.toList.getD k 0).toNat / 2 ^ (j + 1)) = crcT (crcIt j (X ^^^ (s.data.toList.getD k 0).toNat))
              rw [← HY.out, crcT, if_pos hp, HZ.out, xor_half, HD.out, Nat.xor_assoc, Nat.xor_assoc, Nat.xor_comm 2197175160]
            case measure => simp [intOf]; omega
          · have hp0 : (Y ^^^ ((s[k]'hlt).toNat / 2 ^ j)) % 2 = 0 := by omega
            rw [hp0] at eb
            have HP := Lib.hid hp
            clear hp hp0
            go_wp2_with fail
            go_round
            case rel =>
              refine ⟨j + 1, Y / 2, by omega, by go_num, by go_num, by omega, ?_⟩
              have hp := HP.out
              rw [HK.out] at hp
              show Y / 2 ^^^ ((s.data.toList.getD k 0).toNat / 2 ^ (j + 1)) = crcT (crcIt j (X ^^^ (s.data.toList.getD k 0).toNat))
              rw [← HY.out, crcT, if_neg hp, xor_half, HD.out]
            case measure => simp [intOf]; omega
        · obtain rfl : j = 8 := by omega
          have hfin : Y = crcStep X (s.data.toList.getD k 0).toNat := by
            have h := HY.out
            rw [show (s.data.toList.getD k 0).toNat / 2 ^ 8 = 0 by omega, Nat.xor_zero] at h
            exact h
          have HF := Lib.hid hfin
          clear hfin
          go_wp2_with fail
          go_round
          case rel => exact ⟨k + 1, Y, by omega, by go_num, rfl, hY, by show _ = _; rw [HS.out, ← HX.out, HF.out]⟩
          case measure => simp [intOf]; omega
    · obtain rfl : k = s.size := by omega
      have e1 : bits .xor .u32 (X : Int) 4294967295 = ((crcSum s.data.toList : Nat) : Int) := by
        have h1 := xor_u32 X 4294967295 hX (by decide)
        have h2 : X ^^^ 4294967295 = crcSum s.data.toList := by
          rw [HX.out, List.take_of_length_le (by simp)]; rfl
        rw [h2] at h1
        exact h1
      generalize hZ : crcSum s.data.toList = Z at e1 ⊢
      have HZ := Lib.hid hZ
      clear hZ
      go_wp2_with fail
      go_ret
      exact ⟨ret_int (by rw [HZ.out]), rfl⟩

theorem rsize_any (n : Int) (w : World) : Calls Try.prog 48 #[.int .i64 n] w fun e w' => e = .returned (.int .i64 (clampSize n)) ∧ w = w' := by
  go_enter Try.func48, Try.ntmps48
  by_cases h0 : n < 1
  · go_wp2
    all_goals
      go_ret
      exact ⟨ret_int (by unfold clampSize; omega), rfl⟩
  · by_cases h8 : 8 < n
    · go_wp2
      all_goals
        go_ret
        exact ⟨ret_int (by unfold clampSize; omega), rfl⟩
    · go_wp2
      all_goals
        go_ret
        exact ⟨ret_int (by unfold clampSize; omega), rfl⟩

theorem byte_shift (n j : Nat) : (n : Int) / 2 ^ (8 * j) % 256 = ((UInt8.ofNat (n / 256 ^ j)).toNat : Int) := by
  have e : (2 : Nat) ^ (8 * j) = 256 ^ j := by rw [Nat.pow_mul]
  have e2 : ((n : Int) / 2 ^ (8 * j)) = ((n / 256 ^ j : Nat) : Int) := by rw [← e]; simp
  rw [e2]
  simp

set_option maxRecDepth 10000 in
set_option maxHeartbeats 1000000 in
theorem rbytes_any (n : Nat) (size : Int) (w : World) (hn : n < 18446744073709551616) :
    Calls Try.prog 31 #[.int .u64 n, .int .i64 size] w fun e w' => e = .returned (.string ⟨(le n (clampSize size)).toArray⟩) ∧ Below w.heap.size w w' := by
  have hk8 : clampSize size ≤ 8 := by unfold clampSize; omega
  go_enter Try.func31, Try.ntmps31
  go_wp2_with fail
  obtain ⟨i0, hi, hz0, hz1, hz2⟩ := info_parts infoByte
  go_loopg [5, 6] (clampSize size) (fun m v i wr => ∃ (j : Nat), j + m = clampSize size ∧ i = .int .i64 j ∧ wr.ownsRowF w.heap.size 5 1 v j (Lib.byteCells (le n j)) ∧ Below w.heap.size w wr)
  case atStart => exact ⟨0, by omega, rfl, ⟨rfl, .inr ⟨w.heap.size, 0, #[], (0, 0), rfl, Nat.le_refl _, heap_alloc_new w _, by simp, by simp, by unfold maxLen; simp, rfl, rfl⟩⟩, by (repeat (first | with_reducible exact Below.refl _ _ | with_reducible assumption | with_reducible apply Below.drew | with_reducible apply below_drewN | (with_reducible refine below_set ?_ ?_; focus ((try simp); (try omega); done)) | (with_reducible refine below_new ?_ ?_; focus ((try simp); (try omega); done))))⟩
  case round =>
    obtain ⟨j, hj, rfl, hown, hb⟩ := hrel
    have Hj := Lib.hid hj
    by_cases hlt : j < clampSize size
    · have hj8 : j < 8 := by omega
      have e1 := byte_shift n j
      have hd : le n (j + 1) = le n j ++ [UInt8.ofNat (n / 256 ^ j)] := rfl
      have Hd := Lib.hid hd
      generalize UInt8.ofNat (n / 256 ^ j) = c at e1 Hd
      have hcell : Lib.byteCells (le n j ++ [c]) = Lib.byteCells (le n j) ++ [.int .u8 (c.toNat : Int)] := by simp [Lib.byteCells]
      have Hcell := Lib.hid hcell
      generalize hk : clampSize size = k at hlt hk8 hj
      clear hj hd hcell
      go_wp2_with (first
        | (go_at_call 48; refine (rsize_any _ _).mono ?_; rintro e w5 ⟨rfl, rfl⟩)
        | (at_builtin; refine wp_buf_cells _ rfl _ _ 22 rfl w.heap.size 5 i0 (.int .u8 0) 1 1 Try.underlying22 hi hz0 hz1 hz2 rfl (by decide) _ _ _ rfl (hown.alloc _) ⟨wr.heap.size, 0, none⟩ 1 1 [.int .u8 c.toNat] rfl rfl ?c1 ?c2 ?c3 ?c4 ?c5 ?_))
      case c1 =>
        intro j u hj
        match j, hj with
        | 0, hj => simp at hj; subst hj; simp [Addr.add]
      case c2 => intro u hu; simp at hu; subst hu; rfl
      case c3 => unfold maxLen; omega
      case c4 => omega
      case c5 => have := hb.size; simp; omega
      intro v' w2 hown' hgrow _
      rw [← Hcell.out, ← Hd.out] at hown'
      have hb2 : Below w.heap.size w w2 := (hb.alloc hb.size _).grown hgrow (by have := hb.size; simp; omega) (fun k hk => (hown.lt k hk).1)
      clear hown hb e1 Hd Hcell hgrow
      go_wp2_with fail
      go_roundg (gk - 1)
      case measure => have := Hj.out; omega
      case rel => exact ⟨j + 1, by have := Hj.out; omega, by go_num, hown', hb2⟩
    · have hj' : j = clampSize size := by omega
      have hpos : 0 < j := by rw [hj']; unfold clampSize; omega
      have HJ := Lib.hid hj'
      clear hj' hj
      have hex : ∃ g cap, u5 = .slice (some ⟨g, 0, none⟩) j cap := by
        rcases hown.2 with ⟨_, h0⟩ | ⟨g, cap, _, _, hv, _⟩
        · omega
        · exact ⟨g, cap, hv⟩
      obtain ⟨g, cap, rfl⟩ := hex
      have hcv := conv_string wr g 0 cap (le n j) j (le_length n j) (fun i hi => by
        have := hown.cells (g := g) rfl i (.int .u8 ((le n j).getD i 0).toNat) (by
          have hil : i < (le n j).length := by rw [le_length]; exact hi
          simp [Lib.byteCells, List.getD, List.getElem?_eq_getElem hil])
        rw [Nat.zero_add]
        unfold Addr.add at this
        split at this
        · rename_i h0; subst h0; exact this
        · simpa using this)
      clear hown
      have hnlt : ¬ j < clampSize size := by rw [← HJ.out]; omega
      generalize hk : clampSize size = k at hnlt hk8
      clear hk
      go_wp2_with (go_at_call 48; refine (rsize_any _ _).mono ?_; rintro e w5 ⟨rfl, rfl⟩)
      go_ret
      exact ⟨by rw [HJ.out]; rfl, hb⟩

theorem mk_append (a b : List UInt8) : (⟨a.toArray⟩ : ByteArray) ++ ⟨b.toArray⟩ = ⟨(a ++ b).toArray⟩ := by
  apply str_ext
  simp

set_option maxHeartbeats 1000000 in
theorem rseal_any (s q : ByteArray) (w : World) (hs : s.size ≤ 1099511627776) (hq : (⟨(sealL s.data.toList).toArray⟩ : ByteArray) = q) :
    Calls Try.prog 32 #[.string s] w fun e w' => e = .returned (.string q) ∧ Below w.heap.size w w' := by
  have hlt := crcSum_lt s.data.toList
  obtain ⟨T, hT⟩ : ∃ T : ByteArray, (⟨(le (crcSum s.data.toList) (clampSize 4)).toArray⟩ : ByteArray) = T := ⟨_, rfl⟩
  have hTs : T.size ≤ 8 := by
    rw [← hT]
    show (le _ (clampSize 4)).toArray.size ≤ 8
    rw [List.size_toArray, le_length]
    decide
  have hcat : s ++ T = q := by
    rw [← hq, ← hT]
    apply str_ext
    rw [Joins.data_append]
    rfl
  generalize hZ : crcSum s.data.toList = Z at hlt hT
  have HZ := Lib.hid hZ
  clear hZ hq
  have H2 : ∀ W : World, Calls Try.prog 31 #[.int .u64 Z, .int .i64 4] W fun e w' => e = .returned (.string T) ∧ Below W.heap.size W w' := by
    intro W
    rw [← hT]
    exact rbytes_any Z 4 W (by omega)
  have H2' := Lib.hid H2
  clear H2 hT
  have H1 : ∀ W : World, Calls Try.prog 33 #[.string s] W fun e w' => e = .returned (.int .u32 Z) ∧ W = w' := by
    intro W
    rw [← HZ.out]
    exact rsum_any s W (by omega)
  have H1' := Lib.hid H1
  clear H1
  go_enter Try.func32, Try.ntmps32
  go_wp2_with fail
  refine (H1'.out _).mono ?_
  rintro e w1 ⟨rfl, rfl⟩
  go_wp2_with fail
  refine (H2'.out _).mono ?_
  rintro e w1 ⟨rfl, hb⟩
  go_wp2_with fail
  go_ret
  exact ⟨rfl, hb⟩

theorem below_then {w a b : World} (h : Below w.heap.size w a) (k : Below a.heap.size a b) : Below w.heap.size w b := h.trans (k.mono h.size)
end Go.Proofs.Ytoiifcmjmjkcaaa

/- Rows of bytes in a block of one's own, and the turning as a walk makes it. -/
namespace Go.Proofs.Ytoiifcmjmjkcaaa
set_option linter.unusedVariables false
set_option linter.unusedSimpArgs false
open Go.RowKit

theorem modU (n m : Int) (h0 : 1 ≤ m) (h1 : m ≤ 1000000) : ∃ k : Nat, wrap64 ((IntKind.u64.wrap n).tmod m) = (k : Int) ∧ (k : Int) < m := by
  have hu : 0 ≤ IntKind.u64.wrap n := by simp [IntKind.wrap, IntKind.bits, IntKind.signed]; omega
  rw [Int.tmod_eq_emod_of_nonneg hu]
  have a := Int.emod_nonneg (IntKind.u64.wrap n) (show m ≠ 0 by omega)
  have b := Int.emod_lt_of_pos (IntKind.u64.wrap n) (show 0 < m by omega)
  generalize IntKind.u64.wrap n % m = x at a b
  refine ⟨x.toNat, ?_, by omega⟩
  rw [IntWalk.wrap64_in _ (by omega)]
  omega

/-- The cells of a row of bytes with room up to c. -/
def rowOf (L : List UInt8) (c : Nat) : Array Value := (Lib.byteCells L ++ List.replicate (c - L.length) (Value.int .u8 0)).toArray
theorem rowOf_get (L : List UInt8) (c i : Nat) (h : i < L.length) : (rowOf L c)[i]? = some (.int .u8 ((L.getD i 0).toNat : Int)) := by
  simp only [rowOf, List.getElem?_toArray]
  rw [List.getElem?_append_left (by simpa [Lib.byteCells] using h)]
  simp [Lib.byteCells, List.getD, h]
theorem rowOf_set (L : List UInt8) (c i : Nat) (x : UInt8) (h : i < L.length) : (rowOf L c).setIfInBounds i (.int .u8 (x.toNat : Int)) = rowOf (L.set i x) c := by
  apply Array.ext'
  simp only [rowOf, Array.toList_setIfInBounds, List.length_set]
  rw [List.set_append_left _ _ (by simpa [Lib.byteCells] using h)]
  simp [Lib.byteCells, List.map_set]
theorem conv_row (s : ByteArray) (w : World) (hs : s.size ≤ maxLen) : ∃ c : Nat, s.size ≤ c ∧ c ≤ maxLen ∧
    (convert 9 22 (.string s)).run Try.prog w = .ok (.slice (some ⟨w.heap.size, 0, none⟩) s.size c) (w.drew.alloc (.cells (rowOf s.data.toList c) 5 (c, c + 1))) := by
  obtain ⟨C, c, fz, hcv, hC, hc1, hc2, hc3, hfz⟩ := conv_bytes s w hs
  subst hfz
  refine ⟨c, hc1, hc2, ?_⟩
  have : C = rowOf s.data.toList c := by
    apply Array.ext_getElem?
    intro i
    rw [hC i]
    have hl : s.data.toList.length = s.size := by simp
    by_cases h1 : i < s.size
    · rw [if_pos h1, rowOf_get _ _ _ (by omega)]
    · rw [if_neg h1]
      simp only [rowOf, List.getElem?_toArray]
      rw [List.getElem?_append_right (by simp [Lib.byteCells]; omega), List.getElem?_replicate]
      simp only [Lib.byteCells, List.length_map, hl]
      by_cases h2 : i < c
      · rw [if_pos h2, if_pos (by omega)]
      · rw [if_neg h2, if_neg (by omega)]
  rw [hcv, this]

/-- Block g holds the bytes L, with room up to c behind them; none of them is frozen. -/
def Bytes (w : World) (g : Nat) (L : List UInt8) (c : Nat) : Prop := ∃ fz : Nat × Nat, w.heap[g]? = some (.cells (rowOf L c) 5 fz) ∧ (fz = (0, 0) ∨ c ≤ fz.1)
section
variable {w w' : World} {g c : Nat} {L : List UInt8}
theorem Bytes.lt (h : Bytes w g L c) : g < w.heap.size := by
  obtain ⟨fz, h, _⟩ := h
  rcases Nat.lt_or_ge g w.heap.size with hlt | hge
  · exact hlt
  · rw [Array.getElem?_eq_none hge] at h; cases h
theorem Bytes.cell (h : Bytes w g L c) {i : Nat} (hi : i < L.length) : w.cell? ⟨g, i, none⟩ = some (.int .u8 ((L.getD i 0).toNat : Int)) := by
  obtain ⟨fz, h, _⟩ := h
  exact (cell_of_row w g i _ _ _ h).trans (rowOf_get L c i hi)
theorem Bytes.frozen (h : Bytes w g L c) {i : Nat} (hi : i < c) : w.frozen? ⟨g, i, none⟩ = false := by
  obtain ⟨⟨a, b⟩, h, hf⟩ := h
  rcases hf with hf | hf
  · injection hf with ha hb
    subst ha hb
    simp [World.frozen?, h]
  · simp only at hf
    simp [World.frozen?, h]
    omega
theorem Bytes.set_ (h : Bytes w g L c) {i : Nat} (hi : i < L.length) (x : UInt8) : Bytes (w.setCell ⟨g, i, none⟩ (.int .u8 (x.toNat : Int))) g (L.set i x) c := by
  obtain ⟨fz, h, hf⟩ := h
  refine ⟨fz, ?_, hf⟩
  rw [← rowOf_set L c i x hi]
  simp [World.setCell, Array.getElem?_modify, h]
theorem Bytes.below (h : Bytes w g L c) (hb : Below w.heap.size w w') : Bytes w' g L c := by
  have hlt := h.lt
  obtain ⟨fz, h, hf⟩ := h
  exact ⟨fz, (hb.block g hlt).trans h, hf⟩
theorem Bytes.drew (h : Bytes w g L c) : Bytes w.drew g L c := h
theorem Bytes.drewN (h : Bytes w g L c) (n : Nat) : Bytes (w.drewN n) g L c := h
theorem Bytes.new_ : Bytes (w.alloc (.cells (rowOf L c) 5 (c, c + 1))) w.heap.size L c := ⟨_, heap_alloc_new w _, .inr (Nat.le_refl _)⟩
theorem Bytes.made : Bytes (w.alloc (.cells (rowOf L c) 5)) w.heap.size L c := ⟨_, heap_alloc_new w _, .inl rfl⟩
theorem Bytes.conv (h : Bytes w g L c) (cap n : Nat) (hn : L.length = n) : (convert 22 9 (.slice (some ⟨g, 0, none⟩) n cap)).run Try.prog w = .ok (.string ⟨L.toArray⟩) w :=
  conv_string w g 0 cap L n hn (fun i hi => by rw [Nat.zero_add]; exact h.cell (by omega))
end

/-- The turning, byte by byte. -/
def turnTo (t : List UInt8) (k m : Nat) : Nat → List UInt8
  | 0 => t
  | j + 1 => (turnTo t k m j).set (k + j) ((turnTo t k m j).getD (k + j) 0 ^^^ UInt8.ofNat (m / 256 ^ j))
theorem turnTo_length (t : List UInt8) (k m j : Nat) : (turnTo t k m j).length = t.length := by
  induction j with
  | zero => rfl
  | succ j ih => simp [turnTo, ih]
theorem turnTo_get (t : List UInt8) (k m j i : Nat) : (turnTo t k m j)[i]? = t[i]?.map fun x => if k ≤ i ∧ i < k + j then x ^^^ UInt8.ofNat (m / 256 ^ (i - k)) else x := by
  induction j with
  | zero =>
    have e : ∀ x : UInt8, (if k ≤ i ∧ i < k + 0 then x ^^^ UInt8.ofNat (m / 256 ^ (i - k)) else x) = x := fun x => if_neg (by omega)
    simp only [turnTo, e, Option.map_id']
  | succ j ih =>
    simp only [turnTo, List.getElem?_set, turnTo_length]
    by_cases hi : k + j = i
    · subst hi
      rw [if_pos rfl]
      by_cases hl : k + j < t.length
      · rw [if_pos hl]
        have hg : (turnTo t k m j).getD (k + j) 0 = t[k + j] := by
          simp only [List.getD, ih, List.getElem?_eq_getElem hl, Option.map_some, Option.getD_some]
          rw [if_neg (by omega)]
        rw [hg, List.getElem?_eq_getElem hl, Option.map_some, if_pos (by omega), show k + j - k = j by omega]
      · rw [if_neg hl, List.getElem?_eq_none (by omega)]
        rfl
    · rw [if_neg hi, ih]
      congr 1
      funext x
      by_cases h1 : k ≤ i ∧ i < k + j
      · rw [if_pos h1, if_pos (by omega)]
      · rw [if_neg h1, if_neg (by omega)]
theorem err_get (n k m i : Nat) (hk : k ≤ n) (hi : i < n + 4) : (err n k m)[i]? = some (if k ≤ i ∧ i < k + 4 then UInt8.ofNat (m / 256 ^ (i - k)) else 0) := by
  unfold err
  by_cases h1 : i < k
  · rw [List.getElem?_append_left (by simp [le_length]; omega), List.getElem?_append_left (by simp; omega), List.getElem?_replicate, if_pos h1, if_neg (by omega)]
  · by_cases h2 : i < k + 4
    · rw [List.getElem?_append_left (by simp [le_length]; omega), List.getElem?_append_right (by simp; omega), List.length_replicate, le_get m 4 _ (by omega), if_pos (by omega)]
    · rw [List.getElem?_append_right (by simp [le_length]; omega), List.getElem?_replicate, if_pos (by simp [le_length]; omega), if_neg (by omega)]
theorem turnTo_xor (t : List UInt8) (n k m : Nat) (ht : t.length = n + 4) (hk : k ≤ n) : turnTo t k m 4 = xorL t (err n k m) := by
  apply List.ext_getElem?
  intro i
  rw [turnTo_get]
  simp only [xorL, List.getElem?_zipWith]
  by_cases hi : i < n + 4
  · rw [List.getElem?_eq_getElem (by omega), err_get n k m i hk hi]
    simp only [Option.map_some]
    by_cases h1 : k ≤ i ∧ i < k + 4
    · simp [h1]
    · simp [h1]
  · rw [List.getElem?_eq_none (by omega), List.getElem?_eq_none (by rw [err_length n k m hk]; omega)]
    rfl
theorem turn_zero (t : List UInt8) (k j : Nat) : turnTo t k 0 j = t := by
  apply List.ext_getElem?
  intro i
  rw [turnTo_get]
  cases h : t[i]? with
  | none => rfl
  | some x => simp
end Go.Proofs.Ytoiifcmjmjkcaaa

/- The walks of package diff: isWhole, sector, size; the law's sec. -/
namespace Go.Proofs.Ytoiifcmjmjkcaaa
set_option linter.unusedVariables false
set_option linter.unusedSimpArgs false
open Go.RowKit

/-- A sector of one byte. -/
def secL (b : UInt8) : List UInt8 := List.replicate 16 b

theorem isWhole_any (s : ByteArray) (w : World) (hs : s.size ≤ 140737488355328) : Calls Try.prog 23 #[.string s] w fun e w' => e = .returned (.bool (decide (s.size % 16 = 0))) ∧ w = w' := by
  go_enter Try.func23, Try.ntmps23
  go_wp2
  go_ret
  refine ⟨ret_bool ?_, rfl⟩
  rw [Bool.eq_iff_iff]
  simp
  omega

theorem sector_any (s : ByteArray) (i : Nat) (w : World) (hs : s.size ≤ 140737488355328) (hi : (i + 1) * 16 ≤ s.size) :
    Calls Try.prog 24 #[.string s, .int .i64 i] w fun e w' => e = .returned (.string (s.extract (i * 16) ((i + 1) * 16))) ∧ w = w' := by
  go_enter Try.func24, Try.ntmps24
  go_wp2
  go_ret
  exact ⟨rfl, rfl⟩

theorem size_any (at_ : Int) (d : ByteArray) (w : World) (hs : d.size ≤ 140737488355328) :
    Calls Try.prog 25 #[.agg #[.int .i64 at_, .string d]] w fun e w' => e = .returned (.int .i64 ((d.size / 16 : Nat) : Int)) ∧ Below w.heap.size w w' := by
  go_enter Try.func25, Try.ntmps25
  go_wp2
  go_ret
  exact ⟨ret_int (by simp), by (repeat (first | with_reducible exact Below.refl _ _ | with_reducible assumption | with_reducible apply Below.drew | with_reducible apply below_drewN | (with_reducible refine below_set ?_ ?_; focus ((try simp); (try omega); done)) | (with_reducible refine below_new ?_ ?_; focus ((try simp); (try omega); done))))⟩

set_option maxRecDepth 10000 in
set_option maxHeartbeats 1000000 in
theorem sec_any (b : UInt8) (w : World) : Calls Try.prog 9 #[.int .u8 b.toNat] w fun e w' => e = .returned (.string ⟨(secL b).toArray⟩) ∧ Below w.heap.size w w' := by
  go_enter Try.func9, Try.ntmps9
  have hmk : ∀ w, (Instr.makeSlice 22 (.int .i64 16) (.int .i64 16)).run Try.prog w = .ok (.slice (some ⟨w.heap.size, 0, none⟩) 16 16) (w.alloc (.cells (rowOf (List.replicate 16 0) 16) 5)) := fun _ => by kernel_rfl
  generalize hL0 : List.replicate 16 (0 : UInt8) = L0 at hmk
  have HL0 := Lib.hid hL0
  clear hL0
  go_wp2_with fail
  go_loopw [4] (fun i wr => ∃ j : Nat, j ≤ 16 ∧ i = .int .i64 j ∧ Bytes wr w.heap.size (List.replicate j b ++ List.replicate (16 - j) 0) 16 ∧ Below w.heap.size w wr) (fun i _ => 16 - (intOf i).toNat)
  case atStart => exact ⟨0, by omega, rfl, by rw [← HL0.out]; exact Bytes.made, by (repeat (first | with_reducible exact Below.refl _ _ | with_reducible assumption | with_reducible apply Below.drew | with_reducible apply below_drewN | (with_reducible refine below_set ?_ ?_; focus ((try simp); (try omega); done)) | (with_reducible refine below_new ?_ ?_; focus ((try simp); (try omega); done))))⟩
  case round =>
    obtain ⟨j, hj, rfl, hB, hb⟩ := hrel
    clear hmk
    by_cases hlt : j < 16
    · have hcell := hB.cell (i := j) (by simp; omega)
      have hfz := hB.frozen (i := j) (by omega)
      have hset := hB.set_ (i := j) (by simp; omega) b
      have hL : (List.replicate j b ++ List.replicate (16 - j) 0).set j b = List.replicate (j + 1) b ++ List.replicate (16 - (j + 1)) 0 := by
        rw [List.set_append_right _ _ (by simp), List.length_replicate, Nat.sub_self, show 16 - j = (16 - (j + 1)) + 1 by omega, List.replicate_succ, List.set_cons_zero, List.replicate_succ', List.append_assoc]
        rfl
      rw [hL] at hset
      have Hset := Lib.hid hset
      generalize (List.replicate j b ++ List.replicate (16 - j) 0).getD j 0 = x at hcell
      clear hL hset hB
      go_wp2_with fail
      go_roundw
      case rel => exact ⟨j + 1, by omega, by go_num, Hset.out, by (repeat (first | with_reducible exact Below.refl _ _ | with_reducible assumption | with_reducible apply Below.drew | with_reducible apply below_drewN | (with_reducible refine below_set ?_ ?_; focus ((try simp); (try omega); done)) | (with_reducible refine below_new ?_ ?_; focus ((try simp); (try omega); done))))⟩
      case measure => simp [intOf]; omega
    · obtain rfl : j = 16 := by omega
      have hcv := hB.conv 16 16 (by simp)
      have hsec : (List.replicate 16 b ++ List.replicate (16 - 16) 0) = secL b := by simp [secL]
      rw [hsec] at hcv
      clear hB hsec
      generalize hT : secL b = T at hcv
      have HT := Lib.hid hT
      clear hT
      go_wp2_with fail
      go_ret
      exact ⟨by rw [HT.out]; rfl, hb⟩
end Go.Proofs.Ytoiifcmjmjkcaaa
