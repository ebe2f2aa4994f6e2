/- The walks of castle's reference: Sum, Seal, Open; tierceref01's Bytes. -/
import Derived.Test.YtakkhglbdljfiaaKTapeExact01
import Derived.Lib.SmallJoins
namespace Go.Proofs.Ytakkhglbdljfiaa
set_option linter.unusedVariables false
set_option linter.unusedSimpArgs false
open Go.RowKit

theorem Z3q (s : ByteArray) (k : Nat) (h : k < s.size) : s[k] = s.data.toList.getD k 0 := by
  have hd : k < s.data.size := h
  have e : s[k] = s.data[k] := rfl
  rw [e]
  simp [List.getD, Array.getElem?_eq_getElem hd]

theorem bit_u32 (Y B j : Nat) (hY : Y < 4294967296) (hB : B < 256) : bits .xor .u32 (bits .and .u32 (Y : Int) 1) (bits .and .u32 ((B : Int) / 2 ^ j % 4294967296) 1) = (((Y ^^^ (B / 2 ^ j)) % 2 : Nat) : Int) := by
  have h1 : ((B : Int) / 2 ^ j % 4294967296) = ((B / 2 ^ j : Nat) : Int) := by
    have : B / 2 ^ j ≤ B := Nat.div_le_self _ _
    have e : ((B : Int) / 2 ^ j) = ((B / 2 ^ j : Nat) : Int) := by simp
    rw [e]
    generalize B / 2 ^ j = q at this ⊢
    omega
  have h2 : B / 2 ^ j < 4294967296 := by have : B / 2 ^ j ≤ B := Nat.div_le_self _ _; omega
  rw [h1, Z4e _ hY, Z4e _ h2, Z24 _ _ (by omega) (by omega), xor_par]
  rcases Nat.mod_two_eq_zero_or_one Y with hy | hy <;> rcases Nat.mod_two_eq_zero_or_one (B / 2 ^ j) with hb | hb <;> rw [hy, hb] <;> decide

set_option maxRecDepth 10000 in
set_option maxHeartbeats 1000000 in
theorem Z84 (s : ByteArray) (w : World) (hs : s.size ≤ 140737488355328) :
    Calls Try.prog 53 #[.string s] w fun e w' => e = .returned (.int .u32 (crcSum s.data.toList)) ∧ w = w' := by
  go_enter Try.func53, Try.ntmps53
  go_wp2_with fail
  go_loop [3, 4] (fun x i => ∃ (k X : Nat), k ≤ s.size ∧ i = .int .i64 k ∧ x = .int .u32 X ∧ X < 4294967296 ∧ Hid (X = crcState 4294967295 (s.data.toList.take k))) (fun _ i => s.size - (intOf i).toNat)
  case atStart => exact ⟨0, 4294967295, by omega, rfl, rfl, by omega, by simp [Hid, crcState]⟩
  case round =>
    obtain ⟨k, X, hk, rfl, rfl, hX, HX⟩ := hrel
    by_cases hlt : k < s.size
    · have HS := Lib.hid (Z5x s k hlt)
      have hb := (s.data.toList.getD k 0).toNat_lt
      go_wp2_with fail
      go_loop [3, 5] (fun x i => ∃ (j Y : Nat), j ≤ 8 ∧ i = .int .i64 j ∧ x = .int .u32 Y ∧ Y < 4294967296 ∧ Hid (Y ^^^ ((s.data.toList.getD k 0).toNat / 2 ^ j) = crcIt j (X ^^^ (s.data.toList.getD k 0).toNat))) (fun _ i => 8 - (intOf i).toNat)
      case atStart => exact ⟨0, X, by omega, rfl, rfl, hX, by simp [Hid, crcIt]⟩
      case round =>
        obtain ⟨j, Y, hj, rfl, rfl, hY, HY⟩ := hrel
        by_cases hlt2 : j < 8
        · have hbt := (s[k]'hlt).toNat_lt
          have eb := bit_u32 Y (s[k]'hlt).toNat j hY hbt
          have hkb : (s[k]'hlt).toNat = (s.data.toList.getD k 0).toNat := by rw [Z3q s k hlt]
          have hdj : (s.data.toList.getD k 0).toNat / 2 ^ j / 2 = (s.data.toList.getD k 0).toNat / 2 ^ (j + 1) := by rw [Nat.div_div_eq_div_mul, Nat.pow_succ]
          have HK := Lib.hid hkb
          have HD := Lib.hid hdj
          clear hkb hdj
          by_cases hp : (Y ^^^ ((s[k]'hlt).toNat / 2 ^ j)) % 2 = 1
          · rw [hp] at eb
            obtain ⟨Z, hZ⟩ : ∃ Z, Z = (Y / 2) ^^^ 2197175160 := ⟨_, rfl⟩
            have hZ1 : Z < 4294967296 := by rw [hZ]; exact Nat.xor_lt_two_pow (n := 32) (by omega) (by decide)
            have e2 : bits .xor .u32 ((Y : Int) / 2) 2197175160 = (Z : Int) := by
              rw [hZ, ← Z24 (Y / 2) 2197175160 (by omega) (by decide), show ((Y / 2 : Nat) : Int) = (Y : Int) / 2 by omega]
              rfl
            have HZ := Lib.hid hZ
            have HP := Lib.hid hp
            clear hZ hp
            go_wp2_with fail
            go_round
            case rel =>
              refine ⟨j + 1, Z, by omega, by go_num, rfl, hZ1, ?_⟩
              have hp := HP.out
              rw [HK.out] at hp
              show Z ^^^ ((s.data.toList.getD k 0).toNat / 2 ^ (j + 1)) = crcT (crcIt j (X ^^^ (s.data.toList.getD k 0).toNat))
              rw [← HY.out, crcT, if_pos hp, HZ.out, Z5f, HD.out, Nat.xor_assoc, Nat.xor_assoc, Nat.xor_comm 2197175160]
            case measure => simp [intOf]; omega
          · have hp0 : (Y ^^^ ((s[k]'hlt).toNat / 2 ^ j)) % 2 = 0 := by omega
            rw [hp0] at eb
            have HP := Lib.hid hp
            clear hp hp0
            go_wp2_with fail
            go_round
            case rel =>
              refine ⟨j + 1, Y / 2, by omega, by go_num, by go_num, by omega, ?_⟩
              have hp := HP.out
              rw [HK.out] at hp
              show Y / 2 ^^^ ((s.data.toList.getD k 0).toNat / 2 ^ (j + 1)) = crcT (crcIt j (X ^^^ (s.data.toList.getD k 0).toNat))
              rw [← HY.out, crcT, if_neg hp, Z5f, HD.out]
            case measure => simp [intOf]; omega
        · obtain rfl : j = 8 := by omega
          have hfin : Y = crcStep X (s.data.toList.getD k 0).toNat := by
            have h := HY.out
            rw [show (s.data.toList.getD k 0).toNat / 2 ^ 8 = 0 by omega, Nat.xor_zero] at h
            exact h
          have HF := Lib.hid hfin
          clear hfin
          go_wp2_with fail
          go_round
          case rel => exact ⟨k + 1, Y, by omega, by go_num, rfl, hY, by show _ = _; rw [HS.out, ← HX.out, HF.out]⟩
          case measure => simp [intOf]; omega
    · obtain rfl : k = s.size := by omega
      have e1 : bits .xor .u32 (X : Int) 4294967295 = ((crcSum s.data.toList : Nat) : Int) := by
        have h1 := Z24 X 4294967295 hX (by decide)
        have h2 : X ^^^ 4294967295 = crcSum s.data.toList := by
          rw [HX.out, List.take_of_length_le (by simp)]; rfl
        rw [h2] at h1
        exact h1
      generalize hZ : crcSum s.data.toList = Z at e1 ⊢
      have HZ := Lib.hid hZ
      clear hZ
      go_wp2_with fail
      go_ret
      exact ⟨Z19 (by rw [HZ.out]), rfl⟩

theorem Z4n (n : Int) (w : World) : Calls Try.prog 54 #[.int .i64 n] w fun e w' => e = .returned (.int .i64 (clampSize n)) ∧ w = w' := by
  go_enter Try.func54, Try.ntmps54
  by_cases h0 : n < 1
  · go_wp2
    all_goals
      go_ret
      exact ⟨Z19 (by unfold clampSize; omega), rfl⟩
  · by_cases h8 : 8 < n
    · go_wp2
      all_goals
        go_ret
        exact ⟨Z19 (by unfold clampSize; omega), rfl⟩
    · go_wp2
      all_goals
        go_ret
        exact ⟨Z19 (by unfold clampSize; omega), rfl⟩

theorem Z6d (n j : Nat) : (n : Int) / 2 ^ (8 * j) % 256 = ((UInt8.ofNat (n / 256 ^ j)).toNat : Int) := by
  have e : (2 : Nat) ^ (8 * j) = 256 ^ j := by rw [Nat.pow_mul]
  have e2 : ((n : Int) / 2 ^ (8 * j)) = ((n / 256 ^ j : Nat) : Int) := by rw [← e]; simp
  rw [e2]
  simp

set_option maxRecDepth 10000 in
set_option maxHeartbeats 1000000 in
theorem Z3n (n : Nat) (size : Int) (w : World) (hn : n < 18446744073709551616) :
    Calls Try.prog 35 #[.int .u64 n, .int .i64 size] w fun e w' => e = .returned (.string ⟨(le n (clampSize size)).toArray⟩) ∧ Below w.heap.size w w' := by
  have hk8 : clampSize size ≤ 8 := by unfold clampSize; omega
  go_enter Try.func35, Try.ntmps35
  go_wp2_with fail
  obtain ⟨i0, hi, hz0, hz1, hz2⟩ := info_parts infoByte
  go_loopg [5, 6] (clampSize size) (fun m v i wr => ∃ (j : Nat), j + m = clampSize size ∧ i = .int .i64 j ∧ wr.ownsRowF w.heap.size 5 1 v j (Lib.byteCells (le n j)) ∧ Below w.heap.size w wr)
  case atStart => exact ⟨0, by omega, rfl, ⟨rfl, .inr ⟨w.heap.size, 0, #[], (0, 0), rfl, Nat.le_refl _, heap_alloc_new w _, by simp, by simp, by unfold maxLen; simp, rfl, rfl⟩⟩, by (repeat (first | with_reducible exact Below.refl _ _ | with_reducible assumption | with_reducible apply Below.drew | with_reducible apply Z1b | (with_reducible refine Z1p ?_ ?_; focus ((try simp); (try omega); done)) | (with_reducible refine Z1q ?_ ?_; focus ((try simp); (try omega); done))))⟩
  case round =>
    obtain ⟨j, hj, rfl, hown, hb⟩ := hrel
    have Hj := Lib.hid hj
    by_cases hlt : j < clampSize size
    · have hj8 : j < 8 := by omega
      have e1 := Z6d n j
      have hd : le n (j + 1) = le n j ++ [UInt8.ofNat (n / 256 ^ j)] := rfl
      have Hd := Lib.hid hd
      generalize UInt8.ofNat (n / 256 ^ j) = c at e1 Hd
      have hcell : Lib.byteCells (le n j ++ [c]) = Lib.byteCells (le n j) ++ [.int .u8 (c.toNat : Int)] := by simp [Lib.byteCells]
      have Hcell := Lib.hid hcell
      generalize hk : clampSize size = k at hlt hk8 hj
      clear hj hd hcell
      go_wp2_with (first
        | (go_at_call 54; refine (Z4n _ _).mono ?_; rintro e w5 ⟨rfl, rfl⟩)
        | (at_builtin; refine Z2d _ rfl _ _ 65 rfl w.heap.size 5 i0 (.int .u8 0) 1 1 Try.underlying65 hi hz0 hz1 hz2 rfl (by decide) _ _ _ rfl (hown.alloc _) ⟨wr.heap.size, 0, none⟩ 1 1 [.int .u8 c.toNat] rfl rfl ?c1 ?c2 ?c3 ?c4 ?c5 ?_))
      case c1 =>
        intro j u hj
        match j, hj with
        | 0, hj => simp at hj; subst hj; simp [Addr.add]
      case c2 => intro u hu; simp at hu; subst hu; rfl
      case c3 => unfold maxLen; omega
      case c4 => omega
      case c5 => have := hb.size; simp; omega
      intro v' w2 hown' hgrow _
      rw [← Hcell.out, ← Hd.out] at hown'
      have hb2 : Below w.heap.size w w2 := (hb.alloc hb.size _).grown hgrow (by have := hb.size; simp; omega) (fun k hk => (hown.lt k hk).1)
      clear hown hb e1 Hd Hcell hgrow
      go_wp2_with fail
      go_roundg (gk - 1)
      case measure => have := Hj.out; omega
      case rel => exact ⟨j + 1, by have := Hj.out; omega, by go_num, hown', hb2⟩
    · have hj' : j = clampSize size := by omega
      have hpos : 0 < j := by rw [hj']; unfold clampSize; omega
      have HJ := Lib.hid hj'
      clear hj' hj
      have hex : ∃ g cap, u5 = .slice (some ⟨g, 0, none⟩) j cap := by
        rcases hown.2 with ⟨_, h0⟩ | ⟨g, cap, _, _, hv, _⟩
        · omega
        · exact ⟨g, cap, hv⟩
      obtain ⟨g, cap, rfl⟩ := hex
      have hcv := Z39 wr g 0 cap (le n j) j (Z0m n j) (fun i hi => by
        have := hown.cells (g := g) rfl i (.int .u8 ((le n j).getD i 0).toNat) (by
          have hil : i < (le n j).length := by rw [Z0m]; exact hi
          simp [Lib.byteCells, List.getD, List.getElem?_eq_getElem hil])
        rw [Nat.zero_add]
        unfold Addr.add at this
        split at this
        · rename_i h0; subst h0; exact this
        · simpa using this)
      clear hown
      have hnlt : ¬ j < clampSize size := by rw [← HJ.out]; omega
      generalize hk : clampSize size = k at hnlt hk8
      clear hk
      go_wp2_with (go_at_call 54; refine (Z4n _ _).mono ?_; rintro e w5 ⟨rfl, rfl⟩)
      go_ret
      exact ⟨by rw [HJ.out]; rfl, hb⟩

set_option maxHeartbeats 1000000 in
theorem Z6z (s q : ByteArray) (w : World) (hs : s.size ≤ 1099511627776) (hq : (⟨(sealL s.data.toList).toArray⟩ : ByteArray) = q) :
    Calls Try.prog 34 #[.string s] w fun e w' => e = .returned (.string q) ∧ Below w.heap.size w w' := by
  have hlt := Z4w s.data.toList
  obtain ⟨T, hT⟩ : ∃ T : ByteArray, (⟨(le (crcSum s.data.toList) (clampSize 4)).toArray⟩ : ByteArray) = T := ⟨_, rfl⟩
  have hTs : T.size ≤ 8 := by
    rw [← hT]
    show (le _ (clampSize 4)).toArray.size ≤ 8
    rw [List.size_toArray, Z0m]
    decide
  have hcat : s ++ T = q := by
    rw [← hq, ← hT]
    apply Z6w
    rw [Joins.data_append]
    rfl
  generalize hZ : crcSum s.data.toList = Z at hlt hT
  have HZ := Lib.hid hZ
  clear hZ hq
  have H2 : ∀ W : World, Calls Try.prog 35 #[.int .u64 Z, .int .i64 4] W fun e w' => e = .returned (.string T) ∧ Below W.heap.size W w' := by
    intro W
    rw [← hT]
    exact Z3n Z 4 W (by omega)
  have H2' := Lib.hid H2
  clear H2 hT
  have H1 : ∀ W : World, Calls Try.prog 53 #[.string s] W fun e w' => e = .returned (.int .u32 Z) ∧ W = w' := by
    intro W
    rw [← HZ.out]
    exact Z84 s W (by omega)
  have H1' := Lib.hid H1
  clear H1
  go_enter Try.func34, Try.ntmps34
  go_wp2_with fail
  refine (H1'.out _).mono ?_
  rintro e w1 ⟨rfl, rfl⟩
  go_wp2_with fail
  refine (H2'.out _).mono ?_
  rintro e w1 ⟨rfl, hb⟩
  go_wp2_with fail
  go_ret
  exact ⟨rfl, hb⟩

end Go.Proofs.Ytakkhglbdljfiaa

/- Rows of bytes in a block of one's own, and the turning as a walk makes it. -/
namespace Go.Proofs.Ytakkhglbdljfiaa
set_option linter.unusedVariables false
set_option linter.unusedSimpArgs false
open Go.RowKit

/-- The cells of a row of bytes with room up to c. -/
def rowOf (L : List UInt8) (c : Nat) : Array Value := (Lib.byteCells L ++ List.replicate (c - L.length) (Value.int .u8 0)).toArray
theorem Z4o (L : List UInt8) (c i : Nat) (h : i < L.length) : (rowOf L c)[i]? = some (.int .u8 ((L.getD i 0).toNat : Int)) := by
  simp only [rowOf, List.getElem?_toArray]
  rw [List.getElem?_append_left (by simpa [Lib.byteCells] using h)]
  simp [Lib.byteCells, List.getD, h]
theorem Z71 (L : List UInt8) (c i : Nat) (x : UInt8) (h : i < L.length) : (rowOf L c).setIfInBounds i (.int .u8 (x.toNat : Int)) = rowOf (L.set i x) c := by
  apply Array.ext'
  simp only [rowOf, Array.toList_setIfInBounds, List.length_set]
  rw [List.set_append_left _ _ (by simpa [Lib.byteCells] using h)]
  simp [Lib.byteCells, List.map_set]
theorem conv_row (s : ByteArray) (w : World) (hs : s.size ≤ maxLen) : ∃ c : Nat, s.size ≤ c ∧ c ≤ maxLen ∧
    (convert 9 65 (.string s)).run Try.prog w = .ok (.slice (some ⟨w.heap.size, 0, none⟩) s.size c) (w.drew.alloc (.cells (rowOf s.data.toList c) 5 (c, c + 1))) := by
  obtain ⟨C, c, fz, hcv, hC, hc1, hc2, hc3, hfz⟩ := Z3v s w hs
  subst hfz
  refine ⟨c, hc1, hc2, ?_⟩
  have : C = rowOf s.data.toList c := by
    apply Array.ext_getElem?
    intro i
    rw [hC i]
    have hl : s.data.toList.length = s.size := by simp
    by_cases h1 : i < s.size
    · rw [if_pos h1, Z4o _ _ _ (by omega)]
    · rw [if_neg h1]
      simp only [rowOf, List.getElem?_toArray]
      rw [List.getElem?_append_right (by simp [Lib.byteCells]; omega), List.getElem?_replicate]
      simp only [Lib.byteCells, List.length_map, hl]
      by_cases h2 : i < c
      · rw [if_pos h2, if_pos (by omega)]
      · rw [if_neg h2, if_neg (by omega)]
  rw [hcv, this]

/-- Block g holds the bytes L, with room up to c behind them; none of them is frozen. -/
def Bytes (w : World) (g : Nat) (L : List UInt8) (c : Nat) : Prop := ∃ fz : Nat × Nat, w.heap[g]? = some (.cells (rowOf L c) 5 fz) ∧ (fz = (0, 0) ∨ c ≤ fz.1)
section
variable {w w' : World} {g c : Nat} {L : List UInt8}
theorem Bytes.lt (h : Bytes w g L c) : g < w.heap.size := by
  obtain ⟨fz, h, _⟩ := h
  rcases Nat.lt_or_ge g w.heap.size with hlt | hge
  · exact hlt
  · rw [Array.getElem?_eq_none hge] at h; cases h
theorem Bytes.cell (h : Bytes w g L c) {i : Nat} (hi : i < L.length) : w.cell? ⟨g, i, none⟩ = some (.int .u8 ((L.getD i 0).toNat : Int)) := by
  obtain ⟨fz, h, _⟩ := h
  exact (cell_of_row w g i _ _ _ h).trans (Z4o L c i hi)
theorem Bytes.frozen (h : Bytes w g L c) {i : Nat} (hi : i < c) : w.frozen? ⟨g, i, none⟩ = false := by
  obtain ⟨⟨a, b⟩, h, hf⟩ := h
  rcases hf with hf | hf
  · injection hf with ha hb
    subst ha hb
    simp [World.frozen?, h]
  · simp only at hf
    simp [World.frozen?, h]
    omega
theorem Bytes.set_ (h : Bytes w g L c) {i : Nat} (hi : i < L.length) (x : UInt8) : Bytes (w.setCell ⟨g, i, none⟩ (.int .u8 (x.toNat : Int))) g (L.set i x) c := by
  obtain ⟨fz, h, hf⟩ := h
  refine ⟨fz, ?_, hf⟩
  rw [← Z71 L c i x hi]
  simp [World.setCell, Array.getElem?_modify, h]
theorem Bytes.below (h : Bytes w g L c) (hb : Below w.heap.size w w') : Bytes w' g L c := by
  have hlt := h.lt
  obtain ⟨fz, h, hf⟩ := h
  exact ⟨fz, (hb.block g hlt).trans h, hf⟩
theorem Bytes.drew (h : Bytes w g L c) : Bytes w.drew g L c := h
theorem Bytes.drewN (h : Bytes w g L c) (n : Nat) : Bytes (w.drewN n) g L c := h
theorem Bytes.new_ : Bytes (w.alloc (.cells (rowOf L c) 5 (c, c + 1))) w.heap.size L c := ⟨_, heap_alloc_new w _, .inr (Nat.le_refl _)⟩
theorem Bytes.made : Bytes (w.alloc (.cells (rowOf L c) 5)) w.heap.size L c := ⟨_, heap_alloc_new w _, .inl rfl⟩
end

end Go.Proofs.Ytakkhglbdljfiaa

/- The walk of octet.Reader.Get; tierceref01.Number. -/
namespace Go.Proofs.Ytakkhglbdljfiaa
set_option linter.unusedVariables false
set_option linter.unusedSimpArgs false
open Go.RowKit

/-- A number of bytes, the lowest first. -/
def numL : List UInt8 → Nat
  | [] => 0
  | b :: l => b.toNat + 256 * numL l
theorem Z31 (l : List UInt8) : numL l < 256 ^ l.length := by
  induction l with
  | nil => simp [numL]
  | cons b l ih =>
    have := b.toNat_lt
    simp only [numL, List.length_cons, Nat.pow_succ]
    have : 256 ^ l.length * 256 = 256 * 256 ^ l.length := Nat.mul_comm _ _
    omega
theorem Z77 (l : List UInt8) (b : UInt8) : numL (l ++ [b]) = numL l + b.toNat * 256 ^ l.length := by
  induction l with
  | nil => simp [numL]
  | cons a l ih =>
    simp only [List.cons_append, numL, ih, List.length_cons, Nat.pow_succ, Nat.mul_add]
    have : 256 * (b.toNat * 256 ^ l.length) = b.toNat * (256 ^ l.length * 256) := by rw [Nat.mul_comm 256, Nat.mul_assoc]
    omega
theorem Z76 (l : List UInt8) (k : Nat) (h : k < l.length) : numL (l.take (k + 1)) = numL (l.take k) + (l.getD k 0).toNat * 256 ^ k := by
  rw [List.take_succ_eq_append_getElem h, Z77, List.length_take, Nat.min_eq_left (by omega)]
  simp [List.getD, List.getElem?_eq_getElem h]

/-- A place's byte put over the number of those below it. -/
theorem Z87 (X b j : Nat) (hX : X < 256 ^ j) (hb : b < 256) (hj : j < 8) :
    bits .or .u64 (X : Int) (IntKind.u64.wrap (IntKind.u64.wrap (b : Int) * 2 ^ (8 * j))) = ((X + b * 256 ^ j : Nat) : Int) := by
  have hwb : IntKind.u64.wrap (b : Int) = b := by simp [IntKind.wrap, IntKind.bits, IntKind.signed]; omega
  rw [hwb]
  have e : (2 : Nat) ^ (8 * j) = 256 ^ j := by rw [Nat.pow_mul]
  have hp : 256 ^ (j + 1) ≤ 256 ^ 8 := Nat.pow_le_pow_right (by decide) (by omega)
  have hp0 : 0 < 256 ^ j := Nat.pow_pos (by decide)
  have hbj : b * 256 ^ j ≤ 255 * 256 ^ j := Nat.mul_le_mul_right _ (by omega)
  have hbound : 255 * 256 ^ j + 256 ^ j = 256 ^ (j + 1) := by rw [Nat.pow_succ]; omega
  simp only [Nat.reducePow] at hp
  have hw : IntKind.u64.wrap ((b : Int) * 2 ^ (8 * j)) = ((b * 256 ^ j : Nat) : Int) := by
    have e2 : ((b : Int) * 2 ^ (8 * j)) = ((b * 256 ^ j : Nat) : Int) := by rw [← e]; simp
    rw [e2]
    generalize b * 256 ^ j = q at hbj
    simp [IntKind.wrap, IntKind.bits, IntKind.signed]
    omega
  rw [hw, u64_or_nat X (b * 256 ^ j) (by omega) (by omega)]
  congr 1
  rw [← e, Nat.or_comm, Nat.mul_comm, ← Nat.two_pow_add_eq_or_of_lt (by rw [e]; exact hX), Nat.add_comm]

/-- What a reader has left, and whether there were too few bytes, after a number of k bytes; the number. -/
def getN (st : List UInt8 × Bool) (k : Nat) : Nat × (List UInt8 × Bool) :=
  if k ≤ st.1.length then (numL (st.1.take k), (st.1.drop k, st.2)) else (0, ([], true))
theorem getN_lt (st : List UInt8 × Bool) (k : Nat) : (getN st k).1 < 256 ^ k := by
  unfold getN
  split
  · rename_i h
    have := Z31 (st.1.take k)
    rwa [List.length_take, Nat.min_eq_left h] at this
  · exact Nat.pow_pos (by decide)
theorem Z35 (st : List UInt8 × Bool) (k : Nat) : (getN st k).2.1.length ≤ st.1.length := by
  unfold getN
  split <;> simp

set_option maxHeartbeats 1000000 in
theorem Z7x (g : Nat) (st : List UInt8 × Bool) (k : Nat) (w : World) (hk : k ≤ 8) (h : Blk w g 110 (rdr ⟨st.1.toArray⟩ st.2)) (hs : st.1.length ≤ 1000000) :
    ∃ (T : List UInt8) , T.length ≤ 8 ∧ numL T = (getN st k).1 ∧ Calls Try.prog 61 #[.pointer (some ⟨g, 0, none⟩), .int .i64 k] w fun e w' => e = .returned (.string ⟨T.toArray⟩) ∧ Upd w g 110 (rdr ⟨(getN st k).2.1.toArray⟩ (getN st k).2.2) w' := by
  have hsz : (⟨st.1.toArray⟩ : ByteArray).size = st.1.length := by show st.1.toArray.size = _; simp
  unfold getN
  by_cases hle : k ≤ st.1.length
  · rw [if_pos hle]
    refine ⟨st.1.take k, by simp; omega, rfl, ?_⟩
    have := Z5o g ⟨st.1.toArray⟩ st.2 k w h (by omega) (by omega)
    rw [cut_eq _ k (by omega)] at this
    have e : (⟨st.1.toArray⟩ : ByteArray).extract k (⟨st.1.toArray⟩ : ByteArray).size = ⟨(st.1.drop k).toArray⟩ := by
      apply Z6w
      rw [Lib.extract_data, hsz]
      exact List.take_of_length_le (by simp)
    rw [e] at this
    exact this
  · rw [if_neg hle]
    refine ⟨[], by simp, rfl, ?_⟩
    exact Z3h g ⟨st.1.toArray⟩ st.2 k w h (by omega) (by omega)

theorem Z6b (n : Nat) (h1 : 1 ≤ n) (h8 : n ≤ 8) : clampSize n = n := by unfold clampSize; omega

set_option maxRecDepth 10000 in
set_option maxHeartbeats 1000000 in
theorem get_any (g : Nat) (st : List UInt8 × Bool) (k : Nat) (w : World) (h1 : 1 ≤ k) (h8 : k ≤ 8) (h : Blk w g 110 (rdr ⟨st.1.toArray⟩ st.2)) (hs : st.1.length ≤ 1000000) :
    Calls Try.prog 60 #[.pointer (some ⟨g, 0, none⟩), .int .i64 k] w fun e w' => e = .returned (.int .u64 (getN st k).1) ∧ Upd w g 110 (rdr ⟨(getN st k).2.1.toArray⟩ (getN st k).2.2) w' := by
  obtain ⟨T, hT8, hTn, hT⟩ := Z7x g st k w h8 h hs
  generalize (getN st k).2 = st2 at hT ⊢
  rw [← hTn]
  have hTT := Lib.hid hT
  clear hT hTn h
  go_enter Try.func60, Try.ntmps60
  go_wp2_with fail
  refine (Z4h _ _).mono ?_
  rintro e w1 ⟨rfl, rfl⟩
  rw [Z6b k h1 h8]
  go_wp2_with fail
  refine hTT.out.mono ?_
  rintro e w2 ⟨rfl, hU⟩
  have hsz : (⟨T.toArray⟩ : ByteArray).size = T.length := by show T.toArray.size = _; simp
  obtain ⟨c, hc1, hc2, hcv⟩ := conv_row ⟨T.toArray⟩ w2 (by unfold maxLen; omega)
  rw [hsz] at hc1 hcv
  have hB : Bytes (w2.alloc (.cells (rowOf T c) 5 (c, c + 1))) w2.heap.size T c := Bytes.new_
  have hCell := Lib.hid (fun i hi => hB.cell (i := i) hi)
  have hU2 : Upd w g 110 (rdr ⟨st2.1.toArray⟩ st2.2) (w2.drew.alloc (.cells (rowOf T c) 5 (c, c + 1))) := ⟨(hU.blk.drew).alloc _, Z28 (Z4r hU.grown) _⟩
  have HU := Lib.hid hU2
  clear hB hU hU2 hTT
  go_wp2_with fail
  go_loop [5, 6, 7, 14] (fun x _ _ i => ∃ (j X : Nat), j ≤ T.length ∧ i = .int .i64 j ∧ x = .int .u64 X ∧ Hid (X = numL (T.take j))) (fun _ _ _ i => T.length - (intOf i).toNat)
  case atStart => exact ⟨0, 0, by omega, rfl, rfl, by simp [Hid, numL]⟩
  case round =>
    obtain ⟨j, X, hj, rfl, rfl, HX⟩ := hrel
    clear hcv
    by_cases hlt : j < T.length
    · have hcell := hCell.out j hlt
      have hnx := Z76 T j hlt
      have hXlt := Z31 (T.take j)
      rw [List.length_take, Nat.min_eq_left (by omega), ← HX.out] at hXlt
      rw [← HX.out] at hnx
      generalize T.getD j 0 = b at hcell hnx
      have hor := Z87 X b.toNat j hXlt b.toNat_lt (by omega)
      generalize hY : X + b.toNat * 256 ^ j = Y at hor hnx
      have HY := Lib.hid hnx
      clear hXlt hnx hY
      go_wp2_with fail
      go_round
      case rel => exact ⟨j + 1, Y, by omega, by go_num, rfl, by show Y = _; rw [HY.out]⟩
      case measure => simp [intOf]; omega
    · obtain rfl : j = T.length := by omega
      go_wp2_with fail
      go_ret
      exact ⟨Z19 (by rw [HX.out, List.take_length]), HU.out⟩
end Go.Proofs.Ytakkhglbdljfiaa
