/- The walks of castle's reference: Sum, Seal, Open; tierceref01's Bytes. -/
import Derived.Test.YtakkhglbdljfiaaGreatDoorKStoreExact07
import Derived.Lib.SmallJoins
import Derived.Test.YtakkhglbdljfiaaGreatDoorKStoreExact03
import Derived.Test.YtakkhglbdljfiaaGreatDoorKStoreExact00
import Derived.Test.YtakkhglbdljfiaaGreatDoorKStoreExact06
import Derived.RegionTactic
namespace Go.Proofs.YtakkhglbdljfiaaGreatDoor
set_option linter.unusedVariables false
set_option linter.unusedSimpArgs false
open Go.RowKit

theorem below_then {w a b : World} (h : Below w.heap.size w a) (k : Below a.heap.size a b) : Below w.heap.size w b := h.trans (k.mono h.size)

/-- The cells of a row of bytes with room up to c. -/
def rowOf (L : List UInt8) (c : Nat) : Array Value := (Lib.byteCells L ++ List.replicate (c - L.length) (Value.int .u8 0)).toArray
theorem Z7f (L : List UInt8) (c i : Nat) (h : i < L.length) : (rowOf L c)[i]? = some (.int .u8 ((L.getD i 0).toNat : Int)) := by
  simp only [rowOf, List.getElem?_toArray]
  rw [List.getElem?_append_left (by simpa [Lib.byteCells] using h)]
  simp [Lib.byteCells, List.getD, h]
theorem rowOf_set (L : List UInt8) (c i : Nat) (x : UInt8) (h : i < L.length) : (rowOf L c).setIfInBounds i (.int .u8 (x.toNat : Int)) = rowOf (L.set i x) c := by
  apply Array.ext'
  simp only [rowOf, Array.toList_setIfInBounds, List.length_set]
  rw [List.set_append_left _ _ (by simpa [Lib.byteCells] using h)]
  simp [Lib.byteCells, List.map_set]
theorem conv_row (s : ByteArray) (w : World) (hs : s.size ≤ maxLen) : ∃ c : Nat, s.size ≤ c ∧ c ≤ maxLen ∧
    (convert 9 81 (.string s)).run Tryz.prog w = .ok (.slice (some ⟨w.heap.size, 0, none⟩) s.size c) (w.drew.alloc (.cells (rowOf s.data.toList c) 5 (c, c + 1))) := by
  obtain ⟨C, c, fz, hcv, hC, hc1, hc2, hc3, hfz⟩ := Z6d s w hs
  subst hfz
  refine ⟨c, hc1, hc2, ?_⟩
  have : C = rowOf s.data.toList c := by
    apply Array.ext_getElem?
    intro i
    rw [hC i]
    have hl : s.data.toList.length = s.size := by simp
    by_cases h1 : i < s.size
    · rw [if_pos h1, Z7f _ _ _ (by omega)]
    · rw [if_neg h1]
      simp only [rowOf, List.getElem?_toArray]
      rw [List.getElem?_append_right (by simp [Lib.byteCells]; omega), List.getElem?_replicate]
      simp only [Lib.byteCells, List.length_map, hl]
      by_cases h2 : i < c
      · rw [if_pos h2, if_pos (by omega)]
      · rw [if_neg h2, if_neg (by omega)]
  rw [hcv, this]

/-- Block g holds the bytes L, with room up to c behind them; none of them is frozen. -/
def Bytes (w : World) (g : Nat) (L : List UInt8) (c : Nat) : Prop := ∃ fz : Nat × Nat, w.heap[g]? = some (.cells (rowOf L c) 5 fz) ∧ (fz = (0, 0) ∨ c ≤ fz.1)
section
variable {w w' : World} {g c : Nat} {L : List UInt8}
theorem Bytes.lt (h : Bytes w g L c) : g < w.heap.size := by
  obtain ⟨fz, h, _⟩ := h
  rcases Nat.lt_or_ge g w.heap.size with hlt | hge
  · exact hlt
  · rw [Array.getElem?_eq_none hge] at h; cases h
theorem Bytes.cell (h : Bytes w g L c) {i : Nat} (hi : i < L.length) : w.cell? ⟨g, i, none⟩ = some (.int .u8 ((L.getD i 0).toNat : Int)) := by
  obtain ⟨fz, h, _⟩ := h
  exact (cell_of_row w g i _ _ _ h).trans (Z7f L c i hi)
theorem Bytes.frozen (h : Bytes w g L c) {i : Nat} (hi : i < c) : w.frozen? ⟨g, i, none⟩ = false := by
  obtain ⟨⟨a, b⟩, h, hf⟩ := h
  rcases hf with hf | hf
  · injection hf with ha hb
    subst ha hb
    simp [World.frozen?, h]
  · simp only at hf
    simp [World.frozen?, h]
    omega
theorem Bytes.set_ (h : Bytes w g L c) {i : Nat} (hi : i < L.length) (x : UInt8) : Bytes (w.setCell ⟨g, i, none⟩ (.int .u8 (x.toNat : Int))) g (L.set i x) c := by
  obtain ⟨fz, h, hf⟩ := h
  refine ⟨fz, ?_, hf⟩
  rw [← rowOf_set L c i x hi]
  simp [World.setCell, Array.getElem?_modify, h]
theorem Bytes.below (h : Bytes w g L c) (hb : Below w.heap.size w w') : Bytes w' g L c := by
  have hlt := h.lt
  obtain ⟨fz, h, hf⟩ := h
  exact ⟨fz, (hb.block g hlt).trans h, hf⟩
theorem Bytes.drew (h : Bytes w g L c) : Bytes w.drew g L c := h
theorem Bytes.drewN (h : Bytes w g L c) (n : Nat) : Bytes (w.drewN n) g L c := h
theorem Bytes.new_ : Bytes (w.alloc (.cells (rowOf L c) 5 (c, c + 1))) w.heap.size L c := ⟨_, heap_alloc_new w _, .inr (Nat.le_refl _)⟩
theorem Bytes.made : Bytes (w.alloc (.cells (rowOf L c) 5)) w.heap.size L c := ⟨_, heap_alloc_new w _, .inl rfl⟩
theorem Bytes.conv (h : Bytes w g L c) (cap n : Nat) (hn : L.length = n) : (convert 81 9 (.slice (some ⟨g, 0, none⟩) n cap)).run Tryz.prog w = .ok (.string ⟨L.toArray⟩) w :=
  Z5k w g 0 cap L n hn (fun i hi => by rw [Nat.zero_add]; exact h.cell (by omega))
end

/-- A number of bytes, the lowest first. -/
def numL : List UInt8 → Nat
  | [] => 0
  | b :: l => b.toNat + 256 * numL l
theorem Z6u (l : List UInt8) : numL l < 256 ^ l.length := by
  induction l with
  | nil => simp [numL]
  | cons b l ih =>
    have := b.toNat_lt
    simp only [numL, List.length_cons, Nat.pow_succ]
    have : 256 ^ l.length * 256 = 256 * 256 ^ l.length := Nat.mul_comm _ _
    omega
theorem Z7l (l : List UInt8) (b : UInt8) : numL (l ++ [b]) = numL l + b.toNat * 256 ^ l.length := by
  induction l with
  | nil => simp [numL]
  | cons a l ih =>
    simp only [List.cons_append, numL, ih, List.length_cons, Nat.pow_succ, Nat.mul_add]
    have : 256 * (b.toNat * 256 ^ l.length) = b.toNat * (256 ^ l.length * 256) := by rw [Nat.mul_comm 256, Nat.mul_assoc]
    omega
theorem Z6w (l : List UInt8) : le (numL l) l.length = l := by
  apply List.ext_getElem?
  intro i
  by_cases hi : i < l.length
  · rw [le_get _ _ _ hi]
    induction l generalizing i with
    | nil => simp at hi
    | cons a l ih =>
      cases i with
      | zero =>
        simp only [numL, Nat.pow_zero, Nat.div_one, List.getElem?_cons_zero]
        congr 1
        apply UInt8.toNat.inj
        rw [UInt8.toNat_ofNat']
        have := a.toNat_lt
        omega
      | succ i =>
        simp only [List.length_cons] at hi
        rw [List.getElem?_cons_succ, ← ih i (by omega)]
        congr 2
        simp only [numL, Nat.pow_succ]
        rw [Nat.mul_comm (256 ^ i) 256, ← Nat.div_div_eq_div_mul]
        congr 1
        have := a.toNat_lt
        omega
  · rw [List.getElem?_eq_none (by rw [Z0i]; omega), List.getElem?_eq_none (by omega)]
theorem Z2e (n k : Nat) (h : n < 256 ^ k) : numL (le n k) = n := by
  induction k generalizing n with
  | zero => simp at h; subst h; rfl
  | succ k ih =>
    have h1 : le n (k + 1) = le n k ++ [UInt8.ofNat (n / 256 ^ k)] := rfl
    have h2 : le n k = le (n % 256 ^ k) k := by
      apply List.ext_getElem?
      intro i
      by_cases hi : i < k
      · rw [le_get _ _ _ hi, le_get _ _ _ hi]
        congr 1
        apply UInt8.toNat.inj
        rw [UInt8.toNat_ofNat', UInt8.toNat_ofNat']
        have e : 256 ^ k = 256 ^ i * (256 * 256 ^ (k - i - 1)) := by
          rw [← Nat.mul_assoc, ← Nat.pow_succ, ← Nat.pow_add]
          congr 1
          omega
        have : n % 256 ^ k / 256 ^ i = n / 256 ^ i % (256 * 256 ^ (k - i - 1)) := by
          rw [e, Nat.mod_mul_right_div_self]
        rw [this]
        simp only [Nat.reducePow]
        rw [Nat.mod_mul_right_mod]
      · rw [List.getElem?_eq_none (by rw [Z0i]; omega), List.getElem?_eq_none (by rw [Z0i]; omega)]
    rw [h1, Z7l, h2, ih _ (Nat.mod_lt _ (Nat.pow_pos (by decide))), Z0i, UInt8.toNat_ofNat']
    have h3 : n / 256 ^ k < 256 := by
      rw [Nat.div_lt_iff_lt_mul (Nat.pow_pos (by decide)), Nat.mul_comm, ← Nat.pow_succ]
      exact h
    simp only [Nat.reducePow]
    rw [Nat.mod_eq_of_lt h3, Nat.mul_comm]
    exact Nat.mod_add_div _ _
theorem numL_take (l : List UInt8) (k : Nat) (h : k < l.length) : numL (l.take (k + 1)) = numL (l.take k) + (l.getD k 0).toNat * 256 ^ k := by
  rw [List.take_succ_eq_append_getElem h, Z7l, List.length_take, Nat.min_eq_left (by omega)]
  simp [List.getD, List.getElem?_eq_getElem h]

/-- A place's byte put over the number of those below it. -/
theorem or_place (X b j : Nat) (hX : X < 256 ^ j) (hb : b < 256) (hj : j < 8) :
    bits .or .u64 (X : Int) (IntKind.u64.wrap (IntKind.u64.wrap (b : Int) * 2 ^ (8 * j))) = ((X + b * 256 ^ j : Nat) : Int) := by
  have hwb : IntKind.u64.wrap (b : Int) = b := by simp [IntKind.wrap, IntKind.bits, IntKind.signed]; omega
  rw [hwb]
  have e : (2 : Nat) ^ (8 * j) = 256 ^ j := by rw [Nat.pow_mul]
  have hp : 256 ^ (j + 1) ≤ 256 ^ 8 := Nat.pow_le_pow_right (by decide) (by omega)
  have hp0 : 0 < 256 ^ j := Nat.pow_pos (by decide)
  have hbj : b * 256 ^ j ≤ 255 * 256 ^ j := Nat.mul_le_mul_right _ (by omega)
  have hbound : 255 * 256 ^ j + 256 ^ j = 256 ^ (j + 1) := by rw [Nat.pow_succ]; omega
  simp only [Nat.reducePow] at hp
  have hw : IntKind.u64.wrap ((b : Int) * 2 ^ (8 * j)) = ((b * 256 ^ j : Nat) : Int) := by
    have e2 : ((b : Int) * 2 ^ (8 * j)) = ((b * 256 ^ j : Nat) : Int) := by rw [← e]; simp
    rw [e2]
    generalize b * 256 ^ j = q at hbj
    simp [IntKind.wrap, IntKind.bits, IntKind.signed]
    omega
  rw [hw, u64_or_nat X (b * 256 ^ j) (by omega) (by omega)]
  congr 1
  rw [← e, Nat.or_comm, Nat.mul_comm, ← Nat.two_pow_add_eq_or_of_lt (by rw [e]; exact hX), Nat.add_comm]

/-- What a reader has left, and whether there were too few bytes, after a number of k bytes; the number. -/
def getN (st : List UInt8 × Bool) (k : Nat) : Nat × (List UInt8 × Bool) :=
  if k ≤ st.1.length then (numL (st.1.take k), (st.1.drop k, st.2)) else (0, ([], true))
theorem Z5g (st : List UInt8 × Bool) (k : Nat) : (getN st k).1 < 256 ^ k := by
  unfold getN
  split
  · rename_i h
    have := Z6u (st.1.take k)
    rwa [List.length_take, Nat.min_eq_left h] at this
  · exact Nat.pow_pos (by decide)
theorem Z22 (st : List UInt8 × Bool) (k : Nat) : (getN st k).2.1.length ≤ st.1.length := by
  unfold getN
  split <;> simp

set_option maxHeartbeats 1000000 in
theorem take_any (g : Nat) (st : List UInt8 × Bool) (k : Nat) (w : World) (hk : k ≤ 8) (h : Blk w g 170 (rdr ⟨st.1.toArray⟩ st.2)) (hs : st.1.length ≤ 1000000) :
    ∃ (T : List UInt8) , T.length ≤ 8 ∧ numL T = (getN st k).1 ∧ Calls Tryz.prog 117 #[.pointer (some ⟨g, 0, none⟩), .int .i64 k] w fun e w' => e = .returned (.string ⟨T.toArray⟩) ∧ Upd w g 170 (rdr ⟨(getN st k).2.1.toArray⟩ (getN st k).2.2) w' := by
  have hsz : (⟨st.1.toArray⟩ : ByteArray).size = st.1.length := by show st.1.toArray.size = _; simp
  unfold getN
  by_cases hle : k ≤ st.1.length
  · rw [if_pos hle]
    refine ⟨st.1.take k, by simp; omega, rfl, ?_⟩
    have := take_yes g ⟨st.1.toArray⟩ st.2 k w h (by omega) (by omega)
    rw [cut_eq _ k (by omega)] at this
    have e : (⟨st.1.toArray⟩ : ByteArray).extract k (⟨st.1.toArray⟩ : ByteArray).size = ⟨(st.1.drop k).toArray⟩ := by
      apply str_ext
      rw [Lib.extract_data, hsz]
      exact List.take_of_length_le (by simp)
    rw [e] at this
    exact this
  · rw [if_neg hle]
    refine ⟨[], by simp, rfl, ?_⟩
    exact take_short g ⟨st.1.toArray⟩ st.2 k w h (by omega) (by omega)

theorem getN_clamp (n : Nat) (h1 : 1 ≤ n) (h8 : n ≤ 8) : clampSize n = n := by unfold clampSize; omega

set_option maxRecDepth 10000 in
set_option maxHeartbeats 1000000 in
theorem get_any (g : Nat) (st : List UInt8 × Bool) (k : Nat) (w : World) (h1 : 1 ≤ k) (h8 : k ≤ 8) (h : Blk w g 170 (rdr ⟨st.1.toArray⟩ st.2)) (hs : st.1.length ≤ 1000000) :
    Calls Tryz.prog 97 #[.pointer (some ⟨g, 0, none⟩), .int .i64 k] w fun e w' => e = .returned (.int .u64 (getN st k).1) ∧ Upd w g 170 (rdr ⟨(getN st k).2.1.toArray⟩ (getN st k).2.2) w' := by
  obtain ⟨T, hT8, hTn, hT⟩ := take_any g st k w h8 h hs
  generalize (getN st k).2 = st2 at hT ⊢
  rw [← hTn]
  have hTT := Lib.hid hT
  clear hT hTn h
  go_enter Tryz.func97, Tryz.ntmps97
  go_wp2_with fail
  refine (Z76 _ _).mono ?_
  rintro e w1 ⟨rfl, rfl⟩
  rw [getN_clamp k h1 h8]
  go_wp2_with fail
  refine hTT.out.mono ?_
  rintro e w2 ⟨rfl, hU⟩
  have hsz : (⟨T.toArray⟩ : ByteArray).size = T.length := by show T.toArray.size = _; simp
  obtain ⟨c, hc1, hc2, hcv⟩ := conv_row ⟨T.toArray⟩ w2 (by unfold maxLen; omega)
  rw [hsz] at hc1 hcv
  have hB : Bytes (w2.alloc (.cells (rowOf T c) 5 (c, c + 1))) w2.heap.size T c := Bytes.new_
  have hCell := Lib.hid (fun i hi => hB.cell (i := i) hi)
  have hU2 : Upd w g 170 (rdr ⟨st2.1.toArray⟩ st2.2) (w2.drew.alloc (.cells (rowOf T c) 5 (c, c + 1))) := ⟨(hU.blk.drew).alloc _, Z42 (Z7k hU.grown) _⟩
  have HU := Lib.hid hU2
  clear hB hU hU2 hTT
  go_wp2_with fail
  go_loop [5, 6, 7, 14] (fun x _ _ i => ∃ (j X : Nat), j ≤ T.length ∧ i = .int .i64 j ∧ x = .int .u64 X ∧ Hid (X = numL (T.take j))) (fun _ _ _ i => T.length - (intOf i).toNat)
  case atStart => exact ⟨0, 0, by omega, rfl, rfl, by simp [Hid, numL]⟩
  case round =>
    obtain ⟨j, X, hj, rfl, rfl, HX⟩ := hrel
    clear hcv
    by_cases hlt : j < T.length
    · have hcell := hCell.out j hlt
      have hnx := numL_take T j hlt
      have hXlt := Z6u (T.take j)
      rw [List.length_take, Nat.min_eq_left (by omega), ← HX.out] at hXlt
      rw [← HX.out] at hnx
      generalize T.getD j 0 = b at hcell hnx
      have hor := or_place X b.toNat j hXlt b.toNat_lt (by omega)
      generalize hY : X + b.toNat * 256 ^ j = Y at hor hnx
      have HY := Lib.hid hnx
      clear hXlt hnx hY
      go_wp2_with fail
      go_round
      case rel => exact ⟨j + 1, Y, by omega, by go_num, rfl, by show Y = _; rw [HY.out]⟩
      case measure => simp [intOf]; omega
    · obtain rfl : j = T.length := by omega
      go_wp2_with fail
      go_ret
      exact ⟨Z41 (by rw [HX.out, List.take_length]), HU.out⟩

/-- Block b is a writer that holds L; below b the world is as A. -/
def Ws (A : World) (b : Nat) (L : List UInt8) (w : World) : Prop := ∃ g, Wr w b g L ∧ (∀ k, g = some k → b ≤ k) ∧ Below b A w ∧ b ≤ w.heap.size
section
variable {A w w' : World} {b : Nat} {L : List UInt8}
theorem Ws.new_ {b : Nat} (hb : b = A.heap.size) : Ws A b [] (A.alloc (.cells #[.pointer none, .slice none 0 0] 132)) :=
  ⟨none, Wr.new_ hb, (fun k e => by cases e), by subst hb; exact Below.alloc (Below.refl _ _) (Nat.le_refl _) _, by subst hb; simp⟩
theorem Ws.blk (h : Ws A b L w) {k : Nat} {t : TypeId} {cs : Array Value} (hk : Blk A k t cs) (hb : k < b) : Blk w k t cs := by
  obtain ⟨g, _, _, hA, _⟩ := h
  exact hk.below hA hb
theorem Ws.below_ (h : Ws A b L w) : Below b A w := by
  obtain ⟨g, _, _, hA, _⟩ := h
  exact hA
theorem Ws.size (h : Ws A b L w) : b < w.heap.size := by
  obtain ⟨g, hW, _, _, hs⟩ := h
  exact hW.lt
theorem Ws.drew (h : Ws A b L w) : Ws A b L w.drew := by
  obtain ⟨g, hW, hg, hA, hs⟩ := h
  exact ⟨g, hW.drew, hg, hA.drew, hs⟩
theorem Ws.alloc (h : Ws A b L w) (o : Obj) : Ws A b L (w.alloc o) := by
  obtain ⟨g, hW, hg, hA, hs⟩ := h
  exact ⟨g, hW.alloc o, hg, hA.alloc hs o, by simp; omega⟩
theorem Ws.call (h : Ws A b L w) (hb : Below w.heap.size w w') : Ws A b L w' := by
  obtain ⟨g, hW, hg, hA, hs⟩ := h
  exact ⟨g, hW.below hb, hg, hA.trans (hb.mono hs), Nat.le_trans hs hb.size⟩
theorem Ws.wrote (h : Ws A b L w) {L' : List UInt8} (hh : ∀ g, Wr w b g L → (∃ g', Wr w' b g' L' ∧ Wrote w b g g' w')) : Ws A b L' w' := by
  obtain ⟨g, hW, hg, hA, hs⟩ := h
  obtain ⟨g', hW', hK⟩ := hh g hW
  exact ⟨g', hW', hK.own_from hs hg, hK.below hA hs (Nat.le_refl _) hg, Nat.le_trans hs hK.size⟩
end

theorem Z5r {A : World} {b : Nat} {L : List UInt8} {w : World} (h : Ws A b L w) (n : Nat) (size : Int) (k : Nat) (hk : clampSize size = k) (hn : n < 18446744073709551616) (hlen : L.length + 8 ≤ 140737488355328) :
    Calls Tryz.prog 75 #[.pointer (some ⟨b, 0, none⟩), .int .u64 n, .int .i64 size] w fun e w' => e = .returned (.tuple #[]) ∧ Ws A b (L ++ le n k) w' := by
  subst hk
  obtain ⟨g, hW, hg, hA, hs⟩ := h
  refine (put_any b g L n size w hn hW hlen).mono ?_
  rintro e w' ⟨rfl, g', hW', hK⟩
  exact ⟨rfl, g', hW', hK.own_from hs hg, hK.below hA hs (Nat.le_refl _) hg, Nat.le_trans hs hK.size⟩
theorem ws_string {A : World} {b : Nat} {L : List UInt8} {w : World} (h : Ws A b L w) (h0 : L ≠ []) :
    Calls Tryz.prog 77 #[.pointer (some ⟨b, 0, none⟩)] w fun e w' => e = .returned (.string ⟨L.toArray⟩) ∧ Ws A b L w' := by
  obtain ⟨g, hW, hg, hA, hs⟩ := h
  refine (Z4e b g L w hW h0).mono ?_
  rintro e w' ⟨rfl, hW', hK⟩
  exact ⟨rfl, g, hW', hK.own_from hs hg, hK.below hA hs (Nat.le_refl _) hg, Nat.le_trans hs hK.size⟩
end Go.Proofs.YtakkhglbdljfiaaGreatDoor

/- The walks of octet: Len, Fill, String of whatever was written, Zeros. -/
namespace Go.Proofs.YtakkhglbdljfiaaGreatDoor
attribute [local simp] BigFrame.eval_const BigFrame.eval_global BigFrame.eval_func
set_option linter.unusedVariables false
set_option linter.unusedSimpArgs false
open Go.RowKit

theorem Wr.form {w : World} {b : Nat} {g : Option Nat} {l : List UInt8} (h : Wr w b g l) : ∃ p ao cap, w.heap[b]? = some (.cells #[p, .slice ao l.length cap] 132 (0, 0)) ∧ l.length ≤ maxLen := by
  obtain ⟨p, hp, v, hbk, hown, hg⟩ : ∃ p, (p = .pointer none ∨ p = .pointer (some ⟨b, 0, none⟩)) ∧ WrP w b g p l := by
    rcases h with h | h
    · exact ⟨_, .inl rfl, h⟩
    · exact ⟨_, .inr rfl, h⟩
  rcases hown.2 with ⟨hv, hz⟩ | ⟨k, cap, cur, fz, hv, _, _, _, hnc, hcm, _⟩
  · exact ⟨p, none, 0, by rw [hbk, hv, hz], by rw [hz]; decide⟩
  · exact ⟨p, _, cap, by rw [hbk, hv], Nat.le_trans hnc hcm⟩
theorem blen_any (b : Nat) (g : Option Nat) (l : List UInt8) (w : World) (h : Wr w b g l) :
    Calls Tryz.prog 85 #[.pointer (some ⟨b, 0, none⟩)] w fun e w' => e = .returned (.int .i64 l.length) ∧ w = w' := by
  obtain ⟨p, ao, cap, hb, hm⟩ := h.form
  have c1 : w.cell? ⟨b, 1, none⟩ = some (.slice ao l.length cap) := Blk.cell hb 1
  clear hb h
  go_enter Tryz.func85, Tryz.ntmps85
  go_wp2
  go_ret
  exact ⟨rfl, rfl⟩
theorem Z85 {w : World} {b : Nat} {g : Option Nat} (o : Obj) : Wrote w b g g (w.alloc o) :=
  ⟨rfl, rfl, rfl, by simp, fun i hi _ _ => Below.heap_alloc w o i hi, .inl rfl⟩
/-- String of a writer that holds nothing. -/
theorem string_nil (b : Nat) (g : Option Nat) (w : World) (h : Wr w b g []) :
    Calls Tryz.prog 86 #[.pointer (some ⟨b, 0, none⟩)] w fun e w' => e = .returned (.string ⟨#[]⟩) ∧ Wr w' b g [] ∧ Wrote w b g g w' := by
  obtain ⟨p, hp, v, hbk, hown, hg⟩ : ∃ p, (p = .pointer none ∨ p = .pointer (some ⟨b, 0, none⟩)) ∧ WrP w b g p [] := by
    rcases h with h | h
    · exact ⟨_, .inl rfl, h⟩
    · exact ⟨_, .inr rfl, h⟩
  have H := Lib.hid h
  have hUS : ∀ (q : Option Addr) (W : World), (Builtin.unsafeString_ #[167, 3] 9 #[.pointer q, .int .i64 0]).run Tryz.prog W = .ok (.string ⟨#[]⟩) W := fun q W => Lib.run_unsafeString_none (w := W) _ _ _ q
  rcases hown.2 with ⟨rfl, _⟩ | ⟨k, cap, cur, fz, rfl, _, hk, hfz, hnc, hcm, hcs, htake⟩
  · have c1 : w.drew.cell? ⟨b, 1, none⟩ = some (.slice none 0 0) := Blk.cell (w := w.drew) hbk 1
    have hSD : (Builtin.unsafeSliceData_ #[81] 167 #[.slice none 0 0]).run Tryz.prog w.drew = .ok (.pointer none) w.drew := Lib.run_unsafeSliceData_nil _ _ _ _ _
    clear h hbk hown hp hg
    go_enter Tryz.func86, Tryz.ntmps86
    go_wp2
    go_region
    all_goals (go_wp2; go_ret; exact ⟨rfl, H.out.drew, (Wrote.refl w b g).drew⟩)
  · simp only [List.length_nil] at *
    by_cases hc0 : cap = 0
    · subst hc0
      have c1 : w.drew.cell? ⟨b, 1, none⟩ = some (.slice (some ⟨k, 0, none⟩) 0 0) := Blk.cell (w := w.drew) hbk 1
      have hSD : (Builtin.unsafeSliceData_ #[81] 167 #[.slice (some ⟨k, 0, none⟩) 0 0]).run Tryz.prog w.drew = .ok (.pointer (some ⟨w.heap.size, 0, none⟩)) (w.alloc (.view ⟨k, 0, none⟩ 5)).drew :=
        Lib.run_unsafeSliceData_zero (w := w.drew) _ _ 5 Tryz.underlying167 _ _ (5, cur.size) (by have hk' : w.drew.heap[k]? = some (.cells cur 5 fz) := hk; simp [World.shape?, hk'])
      have c2 : (w.alloc (.view ⟨k, 0, none⟩ 5)).cell? ⟨b, 1, none⟩ = some (.slice (some ⟨k, 0, none⟩) 0 0) := Blk.cell (w := w.alloc _) (Blk.alloc hbk _) 1
      clear h hbk hown hp hg htake hk
      go_enter Tryz.func86, Tryz.ntmps86
      go_wp2
      go_region
      all_goals (go_wp2; go_ret; exact ⟨rfl, (H.out.alloc _).drew, (Z85 _).drew⟩)
    · have c1 : w.drew.cell? ⟨b, 1, none⟩ = some (.slice (some ⟨k, 0, none⟩) 0 cap) := Blk.cell (w := w.drew) hbk 1
      have hSD : (Builtin.unsafeSliceData_ #[81] 167 #[.slice (some ⟨k, 0, none⟩) 0 cap]).run Tryz.prog w.drew = .ok (.pointer (some ⟨k, 0, none⟩)) w.drew := Lib.run_unsafeSliceData_row _ _ _ _ _ _ hc0
      clear h hbk hown hp hg htake hk
      go_enter Tryz.func86, Tryz.ntmps86
      go_wp2
      go_region
      all_goals (go_wp2; go_ret; exact ⟨rfl, H.out.drew, (Wrote.refl w b g).drew⟩)

theorem bstring_any (b : Nat) (g : Option Nat) (l : List UInt8) (w : World) (h : Wr w b g l) :
    Calls Tryz.prog 86 #[.pointer (some ⟨b, 0, none⟩)] w fun e w' => e = .returned (.string ⟨l.toArray⟩) ∧ Wr w' b g l ∧ Wrote w b g g w' := by
  by_cases h0 : l = []
  · subst h0; exact string_nil b g w h
  · exact Z4w b g l w h h0
theorem ws_str {A : World} {b : Nat} {L : List UInt8} {w : World} (h : Ws A b L w) :
    Calls Tryz.prog 77 #[.pointer (some ⟨b, 0, none⟩)] w fun e w' => e = .returned (.string ⟨L.toArray⟩) ∧ Ws A b L w' := by
  obtain ⟨g, hW, hg, hA, hs⟩ := h
  go_enter Tryz.func77, Tryz.ntmps77
  go_wp2_with fail
  refine (bstring_any b g L _ hW).mono ?_
  rintro e w' ⟨rfl, hW', hK⟩
  have H := Lib.hid (show Ws A b L w' from ⟨g, hW', hK.own_from hs hg, hK.below hA hs (Nat.le_refl _) hg, Nat.le_trans hs hK.size⟩)
  clear hW' hK hW hg hA hs
  go_wp2_with fail
  go_ret
  exact ⟨rfl, H.out⟩

/-- Zeros up to so many bytes. -/
def fillL (L : List UInt8) (n : Int) : List UInt8 := L ++ List.replicate (n - L.length).toNat 0
theorem repeat0 (c : Nat) : Lib.repeatL [0] c = List.replicate c (0 : UInt8) := by
  induction c with
  | zero => rfl
  | succ c ih => rw [Lib.repeatL, ih]; rfl
theorem wrote_ext {w w' : World} {b : Nat} {g : Option Nat} (h : Below w.heap.size w w') : Wrote w b g g w' := ⟨h.os, h.tape, h.output, h.size, fun k hk _ _ => h.block k hk, .inl rfl⟩
set_option maxRecDepth 100000 in
set_option maxHeartbeats 1000000 in
theorem fill_any (b : Nat) (g : Option Nat) (L : List UInt8) (n : Int) (w : World) (h : Wr w b g L) (hn : n ≤ 1000000) (hlen : L.length ≤ 1000000) :
    Calls Tryz.prog 116 #[.pointer (some ⟨b, 0, none⟩), .int .i64 n] w fun e w' => e = .returned (.tuple #[]) ∧ ∃ g', Wr w' b g' (fillL L n) ∧ Wrote w b g g' w' := by
  by_cases hlt : (L.length : Int) < n
  · obtain ⟨c, rfl⟩ : ∃ c : Nat, n = L.length + c := ⟨(n - L.length).toNat, by omega⟩
    have e0 : fillL L (L.length + c) = L ++ List.replicate c 0 := by unfold fillL; rw [show ((L.length : Int) + c - L.length).toNat = c by omega]
    rw [e0]
    have h1 : decide ((L.length : Int) < (L.length : Int) + c) = true := by simpa using hlt
    have hsub : IntKind.i64.wrap ((L.length : Int) + c - L.length) = (c : Int) := by rw [IntWalk.i64_in _ (by omega)]; omega
    have hsub2 : IntKind.i64.wrap (c : Int) = (c : Int) := IntWalk.i64_in _ (by omega)
    have HL := Lib.hid (fun (W : World) (hW : Wr W b g L) => (blen_any b g L W hW : Calls Tryz.prog 85 #[.pointer (some ⟨b, 0, none⟩)] W fun e w' => e = .returned (.int .i64 L.length) ∧ W = w'))
    have HR : Hid (∀ W : World, Calls Tryz.prog 47 #[.string ⟨#[0]⟩, .int .i64 c] W fun e w' => e = .returned (.string ⟨(List.replicate c (0 : UInt8)).toArray⟩) ∧ Below W.heap.size W w') := by
      intro W
      have := Tryz.strings_Repeat ⟨#[0]⟩ c W (by omega) (by show 1 * c ≤ _; omega)
      rwa [show (⟨#[0]⟩ : ByteArray).data.toList = [0] from rfl, repeat0] at this
    have HWs : Hid (∀ W : World, Ext w W → Calls Tryz.prog 84 #[.pointer (some ⟨b, 0, none⟩), .string ⟨(List.replicate c (0 : UInt8)).toArray⟩] W fun e w' => e = .returned (.tuple #[.int .i64 c, .nilIface]) ∧ ∃ g', Wr w' b g' (L ++ List.replicate c 0) ∧ Wrote w b g g' w') := by
      intro W hE
      refine (Z2k b g L ⟨(List.replicate c (0 : UInt8)).toArray⟩ W (h.below hE) (by simp [ByteArray.size]; omega)).mono ?_
      rintro e w' ⟨rfl, g', hW', hK⟩
      exact ⟨by simp [ByteArray.size], g', .inr (by simpa using hW'), (wrote_ext hE).trans hK⟩
    have H := Lib.hid h
    generalize (List.replicate c (0 : UInt8)) = Z at HR HWs ⊢
    clear e0 hlt h
    go_enter Tryz.func116, Tryz.ntmps116
    go_wp2_with fail
    refine (HL.out _ H.out).mono ?_
    rintro e w1 ⟨rfl, rfl⟩
    go_upto_region 1 with fail
    refine Z0l (R := Ext) (w0 := w) [[], [0], [0, 1], [], [], [4], [4, 5], [4, 5, 6], [3, 4, 5, 6, 7], [3, 4, 5, 6, 7, 8], [0, 1, 2, 3, 4, 5, 6, 7, 8, 9]] [14, 15, 16, 17, 18, 19, 20, 21, 22, 23] Ext.refl (fun _ _ _ => Ext.trans) (Ext.drew _) (by kernel_rfl) ?_
    apply Build.det 14 Ext.refl (by rfl) (by rfl) rfl
    case h =>
      intro ax wx hE hR hF
      have e0 : ax.eval (.tmp 0) = .pointer (some ⟨b, 0, none⟩) := hE.eval 0 (by rfl) rfl
      simp [go_sem, ↓IntWalk.iteOmega, ev e0]
      with_reducible rfl
    apply Build.det 15 Ext.refl (by rfl) (by rfl) rfl
    case h =>
      intro ax wx hE hR hF
      have e14 := hF 0 (det 14 _) (by decide) (.head _)
      simp [go_sem, ↓IntWalk.iteOmega, ev e14]
      with_reducible rfl
    apply Build.det 16 Ext.refl (by rfl) (by rfl) rfl
    case h =>
      intro ax wx hE hR hF
      have e15 := hF 1 (det 15 _) (by decide) (.head _)
      simp [go_sem, ↓IntWalk.iteOmega, ev e15]
      with_reducible rfl
    apply Build.det 17 Ext.refl (by rfl) (by rfl) rfl
    case h =>
      intro ax wx hE hR hF
      have e1 : ax.eval (.tmp 1) = .int .i64 ((L.length : Int) + c) := hE.eval 1 (by rfl) rfl
      simp [go_sem, ↓IntWalk.iteOmega, ev e1]
      with_reducible rfl
    apply Build.det 18 Ext.refl (by rfl) (by rfl) rfl
    case h =>
      intro ax wx hE hR hF
      have e0 : ax.eval (.tmp 0) = .pointer (some ⟨b, 0, none⟩) := hE.eval 0 (by rfl) rfl
      simp [go_sem, ↓IntWalk.iteOmega, ev e0]
      with_reducible rfl
    apply Build.det 19 Ext.refl (by rfl) (by rfl) rfl
    case h =>
      intro ax wx hE hR hF
      have e18 := hF 4 (det 18 _) (by decide) (.head _)
      simp [go_sem, ↓IntWalk.iteOmega, ev e18]
      with_reducible rfl
    apply Build.det 20 Ext.refl (by rfl) (by rfl) rfl
    case h =>
      intro ax wx hE hR hF
      have e19 := hF 5 (det 19 _) (by decide) (.head _)
      simp [go_sem, ↓IntWalk.iteOmega, ev e19]
      with_reducible rfl
    apply Build.call 21 Ext.refl (by rfl) (by rfl) rfl
    case h =>
      intro ax wx hE hR hF
      have e20 := hF 6 (det 20 _) (by decide) (.head _)
      simp [go_sem, ↓IntWalk.iteOmega, ev e20]
      with_reducible exact ⟨rfl, rfl⟩
    case hc => intro wx hR; with_reducible exact (HL.out wx (H.out.below hR)).mono (fun e w' h => ⟨h.1, ext_of_same h.2⟩)
    apply Build.det 22 Ext.refl (by rfl) (by rfl) rfl
    case h =>
      intro ax wx hE hR hF
      have e17 := hF 3 (det 17 _) (by decide) (.tail _ (.tail _ (.tail _ (.tail _ (.head _)))))
      have e21 := hF 7 (det 21 _) (by decide) (.head _)
      simp [go_sem, ↓IntWalk.iteOmega, ev e17, ev e21, hsub, hsub2]
      with_reducible rfl
    apply Build.call 23 Ext.refl (by rfl) (by rfl) rfl
    case h =>
      intro ax wx hE hR hF
      have e22 := hF 8 (det 22 _) (by decide) (.head _)
      simp [go_sem, ↓IntWalk.iteOmega, ev e22]
      with_reducible exact ⟨rfl, rfl⟩
    case hc => intro wx hR; with_reducible exact HR.out wx
    apply Build.stop
    refine ⟨by kernel_rfl, .inr ⟨by kernel_rfl, _, rfl, rfl, ?_⟩⟩
    intro ax w2 hE R2 hF
    have e14 := hF 0 (det 14 _) (.tail _ (.tail _ (.tail _ (.tail _ (.tail _ (.tail _ (.tail _ (.tail _ (.tail _ (.head _))))))))))
    have e15 := hF 1 (det 15 _) (.tail _ (.tail _ (.tail _ (.tail _ (.tail _ (.tail _ (.tail _ (.tail _ (.head _)))))))))
    have e16 := hF 2 (det 16 _) (.tail _ (.tail _ (.tail _ (.tail _ (.tail _ (.tail _ (.tail _ (.head _))))))))
    have e17 := hF 3 (det 17 _) (.tail _ (.tail _ (.tail _ (.tail _ (.tail _ (.tail _ (.head _)))))))
    have e18 := hF 4 (det 18 _) (.tail _ (.tail _ (.tail _ (.tail _ (.tail _ (.head _))))))
    have e19 := hF 5 (det 19 _) (.tail _ (.tail _ (.tail _ (.tail _ (.head _)))))
    have e20 := hF 6 (det 20 _) (.tail _ (.tail _ (.tail _ (.head _))))
    have e21 := hF 7 (det 21 _) (.tail _ (.tail _ (.head _)))
    have e22 := hF 8 (det 22 _) (.tail _ (.head _))
    have e23 := hF 9 (det 23 _) (.head _)
    rw [AllEq.frame (D := [14, 15, 16, 17, 18, 19, 20, 21, 22, 23]) (AllEq.cons e14 (AllEq.cons e15 (AllEq.cons e16 (AllEq.cons e17 (AllEq.cons e18 (AllEq.cons e19 (AllEq.cons e20 (AllEq.cons e21 (AllEq.cons e22 (AllEq.cons e23 (AllEq.nil))))))))))) hE rfl]
    clear hF hE e14 e15 e16 e17 e18 e19 e20 e21 e22 e23
    simp only [List.foldl_cons, List.foldl_nil, Act.put, List.setIfInBounds_toArray, List.set_cons_succ, List.set_cons_zero]
    refine Z33 (by simp [go_sem]) (HWs.out w2 R2) ?_
    rintro e w3 ⟨rfl, h3⟩
    refine ⟨_, rfl, ?_⟩
    have H3 := Lib.hid h3
    clear h3
    go_wp2_with fail
    go_end0
    exact ⟨rfl, H3.out⟩
  · have e0 : fillL L n = L := by unfold fillL; rw [show (n - L.length).toNat = 0 by omega]; simp
    have h1 : decide ((L.length : Int) < n) = false := by simp; omega
    have H := Lib.hid (show Wr w b g (fillL L n) by rw [e0]; exact h)
    clear e0
    go_enter Tryz.func116, Tryz.ntmps116
    go_wp2_with fail
    refine (blen_any b g L _ h).mono ?_
    rintro e w1 ⟨rfl, rfl⟩
    go_wp2_with fail
    go_end0
    exact ⟨rfl, g, H.out, Wrote.refl _ _ _⟩
theorem ws_fill {A : World} {b : Nat} {L : List UInt8} {w : World} (h : Ws A b L w) (n : Int) (hn : n ≤ 1000000) (hlen : L.length ≤ 1000000) :
    Calls Tryz.prog 116 #[.pointer (some ⟨b, 0, none⟩), .int .i64 n] w fun e w' => e = .returned (.tuple #[]) ∧ Ws A b (fillL L n) w' := by
  obtain ⟨g, hW, hg, hA, hs⟩ := h
  refine (fill_any b g L n w hW hn hlen).mono ?_
  rintro e w' ⟨rfl, g', hW', hK⟩
  exact ⟨rfl, g', hW', hK.own_from hs hg, hK.below hA hs (Nat.le_refl _) hg, Nat.le_trans hs hK.size⟩
end Go.Proofs.YtakkhglbdljfiaaGreatDoor

/- leaf: Good. -/
namespace Go.Proofs.YtakkhglbdljfiaaGreatDoor
set_option linter.unusedVariables false
set_option linter.unusedSimpArgs false
open Go.RowKit

def farB (v : Nat) : Bool := decide (v < 1) || decide (512 ≤ v)
theorem far_any (k v : Nat) (w : World) : Calls Tryz.prog 88 #[.agg #[.int .u64 k, .int .u64 v]] w fun e w' => e = .returned (.bool (farB v)) ∧ Ext w w' := by
  have hE := Lib.hid (Ext.alloc w (.cells #[.int .u64 k, .int .u64 v] 98))
  by_cases h1 : v < 1
  · have e : farB v = true := by unfold farB; simp [h1]
    rw [e]
    obtain rfl : v = 0 := by omega
    clear e
    go_enter Tryz.func88, Tryz.ntmps88
    go_wp2_with fail
    go_ret
    exact ⟨rfl, hE.out⟩
  · have h1d : decide (v < 1) = false := by simpa using h1
    have h1i : decide ((v : Int) < 1) = false := by rw [decide_eq_false_iff_not]; omega
    have h1z : ¬ v = 0 := by omega
    by_cases h2 : 512 ≤ v
    · have e : farB v = true := by unfold farB; rw [Bool.or_eq_true, decide_eq_true_iff, decide_eq_true_iff]; exact .inr h2
      rw [e]
      have h2i : decide ((512 : Int) ≤ (v : Int)) = true := by rw [decide_eq_true_iff]; omega
      have h2d : decide (512 ≤ v) = true := by rw [decide_eq_true_iff]; omega
      clear e
      go_enter Tryz.func88, Tryz.ntmps88
      go_wp2_with fail
      go_ret
      exact ⟨rfl, hE.out⟩
    · have e : farB v = false := by unfold farB; rw [Bool.or_eq_false_iff, decide_eq_false_iff_not, decide_eq_false_iff_not]; exact ⟨h1, h2⟩
      rw [e]
      have h2i : decide ((512 : Int) ≤ (v : Int)) = false := by rw [decide_eq_false_iff_not]; omega
      have h2d : decide (512 ≤ v) = false := by rw [decide_eq_false_iff_not]; omega
      clear e
      go_enter Tryz.func88, Tryz.ntmps88
      go_wp2_with fail
      go_ret
      exact ⟨rfl, hE.out⟩
set_option maxHeartbeats 1000000 in
theorem index_any (A : Option Addr) (len cap : Nat) (xs : List (Nat × Nat)) (w : World) (hlen : xs.length = len) (hm : len ≤ 1000000) (hrow : Row w A 2 pairC xs) :
    Calls Tryz.prog 114 #[.slice A len cap, .func (.func 88) #[] #[]] w fun e w' => ∃ r : Int, e = .returned (.int .i64 r) ∧ decide (0 ≤ r) = xs.any (fun x => farB x.2) ∧ Ext w w' := by
  go_enter Tryz.func114, Tryz.ntmps114
  go_wp2_with fail
  go_loopw [8] (fun i wr => ∃ j : Nat, i = .int .i64 j ∧ j ≤ len ∧ Ext w wr ∧ Hid ((xs.take j).any (fun x => farB x.2) = false)) (fun i _ => len - (intOf i).toNat)
  case atStart => exact ⟨0, rfl, by omega, Ext.refl _, by simp [Hid]⟩
  case round =>
    obtain ⟨j, rfl, hj, hEx, HJ⟩ := hrel
    by_cases hlt : j < len
    · have hjx : j < xs.length := by omega
      obtain ⟨b0, o0, rfl, hlt0, q0, q1⟩ := hrow.pair_in hEx hjx
      have HF := Lib.hid (fun W => far_any xs[j].1 xs[j].2 W)
      have htk : (xs.take (j + 1)).any (fun x => farB x.2) = ((xs.take j).any (fun x => farB x.2) || farB xs[j].2) := by
        rw [List.take_succ_eq_append_getElem hjx, List.any_append]
        simp only [List.any_cons, List.any_nil, Bool.or_false]
      rw [HJ.out, Bool.false_or] at htk
      have hin : farB xs[j].2 = true → xs.any (fun x => farB x.2) = true := fun h => List.any_eq_true.2 ⟨_, List.getElem_mem hjx, h⟩
      generalize farB xs[j].2 = B at HF htk hin
      have HTK := Lib.hid htk
      have HIN := Lib.hid hin
      clear htk hin
      cases B
      · go_wp2_with fail
        refine (HF.out _).mono ?_
        rintro e w2 ⟨rfl, R2⟩
        go_wp2_with fail
        go_roundw
        case rel => exact ⟨j + 1, by go_num, by omega, hEx.trans R2, HTK.out⟩
        case measure => simp [intOf]; omega
      · go_wp2_with fail
        refine (HF.out _).mono ?_
        rintro e w2 ⟨rfl, R2⟩
        go_wp2_with fail
        go_ret
        exact ⟨(j : Int), rfl, by rw [HIN.out (by trivial), decide_eq_true_iff]; omega, hEx.trans R2⟩
    · have HA : Hid (xs.any (fun x => farB x.2) = false) := by
        have := HJ.out
        rwa [List.take_of_length_le (by omega)] at this
      go_wp2_with fail
      go_ret
      exact ⟨-1, rfl, by rw [HA.out]; decide, hEx⟩
theorem Z7x (A : Option Addr) (len cap : Nat) (xs : List (Nat × Nat)) (w : World) (hlen : xs.length = len) (hm : len ≤ 1000000) (hrow : Row w A 2 pairC xs) :
    Calls Tryz.prog 89 #[.slice A len cap, .func (.func 88) #[] #[]] w fun e w' => e = .returned (.bool (xs.any (fun x => farB x.2))) ∧ Ext w w' := by
  go_enter Tryz.func89, Tryz.ntmps89
  go_wp2_with fail
  refine (index_any A len cap xs _ hlen hm hrow).mono ?_
  rintro e w2 ⟨r, rfl, hr, R2⟩
  have HR := Lib.hid hr
  clear hr
  go_wp2_with fail
  go_ret
  exact ⟨Z13 HR.out, R2⟩

/-- Whether a node can be. -/
def goodB (lv : Int) (xs : List (Nat × Nat)) : Bool :=
  decide (0 ≤ lv ∧ lv < 8 ∧ xs.length ≤ 15) && (riseB xs && (decide (lv = 0) || (decide (0 < xs.length) && !xs.any (fun x => farB x.2))))
set_option maxHeartbeats 1000000 in
theorem Z6x (lv : Int) (A : Option Addr) (len cap : Nat) (xs : List (Nat × Nat)) (w : World) (hlen : xs.length = len) (hm : len ≤ 1000000) (hrow : Row w A 2 pairC xs) (hx : ∀ x ∈ xs, x.1 < 18446744073709551616) :
    Calls Tryz.prog 48 #[.agg #[.int .i64 lv, .slice A len cap]] w fun e w' => e = .returned (.bool (goodB lv xs)) ∧ Ext w w' := by
  have hE := Ext.alloc w (.cells #[.int .i64 lv, .slice A len cap] 47)
  have hX : Blk (w.alloc (.cells #[.int .i64 lv, .slice A len cap] 47)) w.heap.size 47 #[.int .i64 lv, .slice A len cap] := Blk.new _ _ _
  have HR := Lib.hid (fun W (h : Ext (w.alloc (.cells #[.int .i64 lv, .slice A len cap] 47)) W) => rise_any A len cap xs W hlen hm (hrow.ext (hE.trans h)) hx)
  have HC := Lib.hid (fun W (h : Ext (w.alloc (.cells #[.int .i64 lv, .slice A len cap] 47)) W) => Z7x A len cap xs W hlen hm (hrow.ext (hE.trans h)))
  have HE := Lib.hid hE
  have HX := Lib.hid hX
  have hgd : goodB lv xs = (decide (0 ≤ lv ∧ lv < 8 ∧ len ≤ 15) && (riseB xs && (decide (lv = 0) || (decide (0 < len) && !xs.any (fun x => farB x.2))))) := by unfold goodB; rw [hlen]
  rw [hgd]
  generalize riseB xs = RB at HR ⊢
  generalize xs.any (fun x => farB x.2) = FB at HC ⊢
  clear hE hX hrow hx hgd hlen
  by_cases h1 : 0 ≤ lv ∧ lv < 8 ∧ len ≤ 15
  · rw [decide_eq_true h1, Bool.true_and]
    obtain ⟨ha, hb, hc⟩ := h1
    have d1 : decide (lv < 0) = false := by rw [decide_eq_false_iff_not]; omega
    have d2 : decide (8 ≤ lv) = false := by rw [decide_eq_false_iff_not]; omega
    have d3 : decide ((15 : Int) < (len : Int)) = false := by rw [decide_eq_false_iff_not]; omega
    cases RB
    · rw [Bool.false_and]
      go_enter Tryz.func48, Tryz.ntmps48
      go_wp2_with fail
      refine (HR.out _ (Ext.refl _)).mono ?_
      rintro e w2 ⟨rfl, R2⟩
      go_wp2_with fail
      go_ret
      exact ⟨rfl, HE.out.trans R2⟩
    · rw [Bool.true_and]
      by_cases h0 : lv = 0
      · rw [decide_eq_true h0, Bool.true_or]
        subst h0
        go_enter Tryz.func48, Tryz.ntmps48
        go_wp2_with fail
        refine (HR.out _ (Ext.refl _)).mono ?_
        rintro e w2 ⟨rfl, R2⟩
        have X2 := HX.out.ext R2
        have q0 := X2.cell 0
        have q1 := X2.cell 1
        clear X2
        go_wp2_with fail
        go_ret
        exact ⟨rfl, HE.out.trans R2⟩
      · rw [decide_eq_false h0, Bool.false_or]
        have d4 : (lv == 0) = false := by simpa using h0
        by_cases hl : 0 < len
        · rw [decide_eq_true hl, Bool.true_and]
          have d5 : decide ((0 : Int) < (len : Int)) = true := by rw [decide_eq_true_iff]; omega
          go_enter Tryz.func48, Tryz.ntmps48
          go_wp2_with fail
          refine (HR.out _ (Ext.refl _)).mono ?_
          rintro e w2 ⟨rfl, R2⟩
          have X2 := HX.out.ext R2
          have q0 := X2.cell 0
          have q1 := X2.cell 1
          clear X2
          go_wp2_with fail
          refine (HC.out _ R2).mono ?_
          rintro e w3 ⟨rfl, R3⟩
          go_wp2_with fail
          go_ret
          exact ⟨rfl, (HE.out.trans R2).trans R3⟩
        · rw [decide_eq_false hl, Bool.false_and]
          obtain rfl : len = 0 := by omega
          go_enter Tryz.func48, Tryz.ntmps48
          go_wp2_with fail
          refine (HR.out _ (Ext.refl _)).mono ?_
          rintro e w2 ⟨rfl, R2⟩
          have X2 := HX.out.ext R2
          have q0 := X2.cell 0
          have q1 := X2.cell 1
          clear X2
          go_wp2_with fail
          go_ret
          exact ⟨rfl, HE.out.trans R2⟩
  · rw [decide_eq_false h1, Bool.false_and]
    clear HR HC
    by_cases ha : lv < 0
    · have d1 : decide (lv < 0) = true := by rw [decide_eq_true_iff]; omega
      go_enter Tryz.func48, Tryz.ntmps48
      go_wp2_with fail
      go_ret
      exact ⟨rfl, HE.out⟩
    · have d1 : decide (lv < 0) = false := by rw [decide_eq_false_iff_not]; omega
      by_cases hb : 8 ≤ lv
      · have d2 : decide (8 ≤ lv) = true := by rw [decide_eq_true_iff]; omega
        go_enter Tryz.func48, Tryz.ntmps48
        go_wp2_with fail
        go_ret
        exact ⟨rfl, HE.out⟩
      · have d2 : decide (8 ≤ lv) = false := by rw [decide_eq_false_iff_not]; omega
        have d3 : decide ((15 : Int) < (len : Int)) = true := by rw [decide_eq_true_iff]; omega
        have hc : 15 < len := by omega
        go_enter Tryz.func48, Tryz.ntmps48
        go_wp2_with fail
        go_ret
        exact ⟨rfl, HE.out⟩

/-- The bytes of a row of pairs. -/
def pairsL : List (Nat × Nat) → List UInt8
  | [] => []
  | x :: xs => le x.1 8 ++ (le x.2 8 ++ pairsL xs)
theorem Z1m (xs : List (Nat × Nat)) : (pairsL xs).length = 16 * xs.length := by
  induction xs with
  | nil => rfl
  | cons x xs ih => simp [pairsL, Z0i, ih]; omega
theorem Z56 (xs : List (Nat × Nat)) (x : Nat × Nat) : pairsL (xs ++ [x]) = pairsL xs ++ le x.1 8 ++ le x.2 8 := by
  induction xs with
  | nil => simp [pairsL]
  | cons y xs ih => simp [pairsL, ih]
theorem pairsL_take (xs : List (Nat × Nat)) {j : Nat} (hj : j < xs.length) : pairsL (xs.take (j + 1)) = pairsL (xs.take j) ++ le xs[j].1 8 ++ le xs[j].2 8 := by
  rw [List.take_add_one, List.getElem?_eq_getElem hj]
  exact Z56 _ _
/-- A node's first four bytes. -/
def hdL (lv n : Nat) : List UInt8 := [] ++ le 76 1 ++ le lv 1 ++ le n 1 ++ le 0 1
theorem Z2v (lv n : Nat) : (hdL lv n).length = 4 := by simp [hdL, Z0i]
/-- A node's bytes ahead of their sum. -/
def leafL (lv : Nat) (xs : List (Nat × Nat)) : List UInt8 := fillL (hdL lv xs.length ++ pairsL xs) 252
theorem Z6v (lv : Nat) (xs : List (Nat × Nat)) : leafL lv xs = hdL lv xs.length ++ pairsL xs ++ List.replicate (248 - 16 * xs.length) 0 := by
  have h : ((252 : Int) - ((4 + 16 * xs.length : Nat) : Int)).toNat = 248 - 16 * xs.length := by omega
  unfold leafL fillL
  rw [List.length_append, Z2v, Z1m, h]
theorem Z27 (lv : Nat) (xs : List (Nat × Nat)) (h : xs.length ≤ 15) : (leafL lv xs).length = 252 := by
  rw [Z6v]
  simp only [List.length_append, Z2v, Z1m, List.length_replicate]
  omega
theorem Z6m (lv : Nat) (xs : List (Nat × Nat)) (h : xs.length ≤ 15) : (sealL (leafL lv xs)).length = 256 := by rw [Z1t, Z27 lv xs h]
/-- The pair at a place of a page. -/
def pairAt (l : List UInt8) (i : Nat) : Nat × Nat := (numL ((l.drop (4 + 16 * i)).take 8), numL ((l.drop (12 + 16 * i)).take 8))
def pairsAt (l : List UInt8) (n : Nat) : List (Nat × Nat) := (List.range n).map (pairAt l)
theorem Z18 (l : List UInt8) (n : Nat) : (pairsAt l n).length = n := by simp [pairsAt]
theorem Z4d (l : List UInt8) (n : Nat) : pairsAt l (n + 1) = pairsAt l n ++ [pairAt l n] := by simp [pairsAt, List.range_succ]
theorem pairAt_lt (l : List UInt8) (i : Nat) : (pairAt l i).1 < 18446744073709551616 ∧ (pairAt l i).2 < 18446744073709551616 := by
  have h : ∀ m : List UInt8, numL (m.take 8) < 18446744073709551616 := fun m => by
    have h1 := Z6u (m.take 8)
    have h2 : 256 ^ (m.take 8).length ≤ 256 ^ 8 := Nat.pow_le_pow_right (by decide) (by simp; omega)
    have h3 : (256 : Nat) ^ 8 = 18446744073709551616 := by decide
    omega
  exact ⟨h _, h _⟩
theorem Z65 (l : List UInt8) (n : Nat) : ∀ x ∈ pairsAt l n, x.1 < 18446744073709551616 ∧ x.2 < 18446744073709551616 := by
  intro x hx
  simp only [pairsAt, List.mem_map] at hx
  obtain ⟨i, -, rfl⟩ := hx
  exact pairAt_lt l i
def lvAt (l : List UInt8) : Nat := (l.getD 1 0).toNat
def cntAt (l : List UInt8) : Nat := min (l.getD 2 0).toNat 15
theorem cntAt_le (l : List UInt8) : cntAt l ≤ 15 := Nat.min_le_right _ _
/-- Whether a page is a node's. -/
def readB (l : List UInt8) : Bool :=
  decide (l.length = 256) && (goodB (lvAt l : Nat) (pairsAt l (cntAt l)) && decide (sealL (leafL (lvAt l) (pairsAt l (cntAt l))) = l))

/-- The bytes of pairs are those that the pairs were read from. -/
theorem Z63 (l : List UInt8) (n : Nat) (h : 4 + 16 * n ≤ l.length) : pairsL (pairsAt l n) = (l.drop 4).take (16 * n) := by
  induction n with
  | zero => simp [pairsAt, pairsL]
  | succ n ih =>
    rw [Z4d, Z56, ih (by omega)]
    have e1 : le (pairAt l n).1 8 = (l.drop (4 + 16 * n)).take 8 := by
      have := Z6w ((l.drop (4 + 16 * n)).take 8)
      rwa [show ((l.drop (4 + 16 * n)).take 8).length = 8 by simp; omega] at this
    have e2 : le (pairAt l n).2 8 = (l.drop (12 + 16 * n)).take 8 := by
      have := Z6w ((l.drop (12 + 16 * n)).take 8)
      rwa [show ((l.drop (12 + 16 * n)).take 8).length = 8 by simp; omega] at this
    rw [e1, e2, show 16 * (n + 1) = 16 * n + 8 + 8 by omega, List.take_add, List.take_add, List.drop_drop, List.drop_drop]
    rw [show 4 + (16 * n + 8) = 12 + 16 * n by omega]

theorem take4 (l : List UInt8) (h : 4 ≤ l.length) : l.take 4 = [l.getD 0 0, l.getD 1 0, l.getD 2 0, l.getD 3 0] := by
  match l, h with
  | a :: b :: c :: d :: r, _ => rfl
theorem le1 (x : UInt8) : le x.toNat 1 = [x] := by
  apply List.ext_getElem (by simp [Z0i])
  intro i h1 h2
  obtain rfl : i = 0 := by simp at h2; omega
  simp [le]

/-- What the code asks of a page that opens, is that it is its node's page. -/
theorem page_is (l : List UInt8) (hl : l.length = 256) (ho : sealL (l.take 252) = l) :
    readB l = (decide (l.getD 0 0 = 76 ∧ l.getD 3 0 = 0 ∧ (l.getD 2 0).toNat ≤ 15) && (((l.take 252).drop (4 + 16 * cntAt l)).all (· == 0) && goodB (lvAt l : Nat) (pairsAt l (cntAt l)))) := by
  unfold readB
  rw [decide_eq_true hl, Bool.true_and, Bool.and_comm (goodB _ _), ← Bool.and_assoc]
  congr 1
  rw [Bool.eq_iff_iff, Bool.and_eq_true, decide_eq_true_iff, decide_eq_true_iff, List.all_eq_true]
  have hn := cntAt_le l
  have hpl : (pairsAt l (cntAt l)).length = cntAt l := Z18 _ _
  have hpr := Z63 l (cntAt l) (by omega)
  have hlv : lvAt l = (l.getD 1 0).toNat := rfl
  have hcn : cntAt l = min (l.getD 2 0).toNat 15 := rfl
  have hlen := Z27 (lvAt l) (pairsAt l (cntAt l)) (by omega)
  have hT : sealL (leafL (lvAt l) (pairsAt l (cntAt l))) = l ↔ leafL (lvAt l) (pairsAt l (cntAt l)) = l.take 252 := by
    constructor
    · intro h
      have := congrArg (List.take 252) h
      rw [← this]
      unfold sealL
      rw [List.take_left' hlen]
    · intro h; rw [h, ho]
  have hsplit : l.take 252 = l.take 4 ++ ((l.drop 4).take (16 * cntAt l) ++ (l.take 252).drop (4 + 16 * cntAt l)) := by
    have e1 : (l.drop 4).take (16 * cntAt l) = ((l.take 252).drop 4).take (16 * cntAt l) := by
      rw [List.drop_take, List.take_take, Nat.min_eq_left (by omega)]
    have e2 : l.take 4 = (l.take 252).take 4 := by rw [List.take_take]; rfl
    have e3 : (l.take 252).drop (4 + 16 * cntAt l) = ((l.take 252).drop 4).drop (16 * cntAt l) := by rw [List.drop_drop]
    rw [e1, e2, e3, List.take_append_drop, List.take_append_drop]
  have hzl : ((l.take 252).drop (4 + 16 * cntAt l)).length = 248 - 16 * cntAt l := by simp; omega
  obtain ⟨Z, hZ⟩ : ∃ Z, (l.take 252).drop (4 + 16 * cntAt l) = Z := ⟨_, rfl⟩
  rw [hZ] at hsplit hzl ⊢
  rw [hT, Z6v, hpl, hpr, hsplit, take4 l (by omega), List.append_assoc]
  clear hZ hsplit hT hlen
  generalize cntAt l = n at hn hcn hzl
  rw [hlv]
  have hh : hdL (l.getD 1 0).toNat n = [76, l.getD 1 0, UInt8.ofNat n, 0] := by
    unfold hdL
    rw [le1]
    simp [le]
  rw [hh]
  constructor
  · intro h
    have h1 := (List.append_inj h (by simp)).1
    have h2 := (List.append_inj (List.append_inj h (by simp)).2 rfl).2
    simp only [List.cons.injEq, true_and, and_true] at h1
    obtain ⟨ha, hb, hc⟩ := h1
    refine ⟨⟨ha.symm, hc.symm, ?_⟩, ?_⟩
    · rw [← hb]
      have : (UInt8.ofNat n).toNat = n := by simp; omega
      omega
    · rw [← h2]
      intro x hx
      rw [(List.mem_replicate.1 hx).2]; rfl
  · rintro ⟨⟨ha, hc, hb⟩, hz⟩
    have hnn : n = (l.getD 2 0).toNat := by omega
    rw [ha, hc, hnn]
    have : UInt8.ofNat (l.getD 2 0).toNat = l.getD 2 0 := by simp
    rw [this]
    congr 2
    symm
    rw [List.eq_replicate_iff]
    exact ⟨by rw [hzl, hnn], fun x hx => by simpa using hz x hx⟩
/-- A page that does not open is no node's. -/
theorem Z3b (l : List UInt8) (h : ¬ (l.length = 256 ∧ sealL (l.take 252) = l)) : readB l = false := by
  unfold readB
  by_cases hl : l.length = 256
  · have hs : ¬ sealL (l.take 252) = l := fun e => h ⟨hl, e⟩
    have : ¬ sealL (leafL (lvAt l) (pairsAt l (cntAt l))) = l := by
      intro e
      apply hs
      have hlen := Z27 (lvAt l) (pairsAt l (cntAt l)) (by rw [Z18]; exact cntAt_le l)
      have := congrArg (List.take 252) e
      rw [← this]
      conv => rhs; rw [← e]
      unfold sealL
      rw [List.take_left' hlen]
    rw [decide_eq_false this, Bool.and_false, Bool.and_false]
  · rw [decide_eq_false hl, Bool.false_and]

/-- The reader's states: what is left, and whether there were too few bytes. -/
structure Rs (A : World) (b : Nat) (st : List UInt8 × Bool) (w : World) : Prop where
  blk : Blk w b 170 (rdr ⟨st.1.toArray⟩ st.2)
  below : Below b A w
theorem Rs.size {A w : World} {b : Nat} {st : List UInt8 × Bool} (h : Rs A b st w) : b < w.heap.size := h.blk.lt
theorem Rs.call {A w w' : World} {b : Nat} {st : List UInt8 × Bool} (h : Rs A b st w) (hb : Below w.heap.size w w') : Rs A b st w' :=
  ⟨h.blk.below hb h.size, h.below.trans (hb.mono (Nat.le_of_lt h.size))⟩
theorem Rs.alloc {A w : World} {b : Nat} {st : List UInt8 × Bool} (h : Rs A b st w) (o : Obj) : Rs A b st (w.alloc o) := ⟨h.blk.alloc o, h.below.alloc (Nat.le_of_lt h.size) o⟩
theorem Rs.set_ {A w : World} {b : Nat} {st : List UInt8 × Bool} (h : Rs A b st w) {p : Addr} (u : Value) (hp : b < p.block) : Rs A b st (w.setCell p u) := ⟨h.blk.far (by omega) u, h.below.setCell (by omega) u⟩
theorem rs_of (s : ByteArray) (w : World) : Calls Tryz.prog 96 #[.string s] w fun e w' => e = .returned (.pointer (some ⟨w.heap.size, 0, none⟩)) ∧ Rs w w.heap.size (s.data.toList, false) w' := by
  refine (of_any s w).mono ?_
  rintro e w' ⟨rfl, hU⟩
  refine ⟨rfl, by simpa using hU.blk, ?_⟩
  have := hU.grown
  exact ⟨this.os, this.tape, this.output, this.size, fun i hi => this.block i hi (by simp; omega)⟩
/-- A number is read; of other blocks none turns. -/
theorem Z5z {A : World} {b : Nat} {st : List UInt8 × Bool} {w : World} (h : Rs A b st w) (k : Nat) (h1 : 1 ≤ k) (h8 : k ≤ 8) (hs : st.1.length ≤ 1000000) :
    Calls Tryz.prog 97 #[.pointer (some ⟨b, 0, none⟩), .int .i64 k] w fun e w' => e = .returned (.int .u64 (getN st k).1) ∧ Rs A b (getN st k).2 w' ∧ (∀ x t cs, x ≠ b → Blk w x t cs → Blk w' x t cs) ∧ w.heap.size ≤ w'.heap.size := by
  refine (get_any b st k w h1 h8 h.blk hs).mono ?_
  rintro e w' ⟨rfl, hU⟩
  refine ⟨rfl, ⟨hU.blk, ?_⟩, fun x t cs hx hl => hl.grown hU.grown (by simpa using hx), hU.grown.size⟩
  exact h.below.grown hU.grown (Nat.le_of_lt h.size) (fun k e => by injection e with e; omega)
theorem Z60 {A : World} {b : Nat} {w : World} (h : Rs A b ([], false) w) :
    Calls Tryz.prog 119 #[.pointer (some ⟨b, 0, none⟩)] w fun e w' => e = .returned (.int .i64 0) ∧ w = w' :=
  end_yes b _ w h.blk rfl
theorem rs_end_no {A : World} {b : Nat} {st : List UInt8 × Bool} {w : World} (h : Rs A b st w) (h0 : st ≠ ([], false)) :
    Calls Tryz.prog 119 #[.pointer (some ⟨b, 0, none⟩)] w fun e w' => e = .returned (.int .i64 3) ∧ w = w' := by
  refine end_no b _ _ w h.blk (fun hs he => h0 ?_)
  have : st.1.toArray.size = 0 := he
  rw [List.size_toArray] at this
  exact Prod.ext (List.eq_nil_of_length_eq_zero this) hs

theorem trimB_nil (l : List UInt8) : Lib.trimB l 0 = [] ↔ ∀ x ∈ l, x = 0 := by
  have hd : ∀ m : List UInt8, m.dropWhile (· == 0) = [] ↔ ∀ x ∈ m, x = 0 := by
    intro m
    induction m with
    | nil => simp
    | cons x m ih =>
      by_cases hx : x = 0
      · subst hx; simp [ih]
      · simp [List.dropWhile_cons, hx]
  unfold Lib.trimB Lib.trimLeftB Lib.trimRightB
  rw [hd]
  have hm : ∀ m : List UInt8, (∀ x ∈ m.dropWhile (· == 0), x = 0) ↔ ∀ x ∈ m, x = 0 := by
    intro m
    induction m with
    | nil => simp
    | cons x m ih =>
      by_cases hx : x = 0
      · subst hx; simpa using ih
      · simp [List.dropWhile_cons, hx]
  have := hm l.reverse
  simpa using this

/-- All is zeros; nothing is left. -/
theorem u_zeros {b : Nat} {st : List UInt8 × Bool} {w : World} (h : Blk w b 170 (rdr ⟨st.1.toArray⟩ st.2)) (hs : st.1.length ≤ 1000000) :
    Calls Tryz.prog 98 #[.pointer (some ⟨b, 0, none⟩)] w fun e w' => e = .returned (.bool (st.1.all (· == 0))) ∧ Upd w b 170 (rdr ⟨#[]⟩ st.2) w' := by
  obtain ⟨l, sh⟩ := st
  have hb := h
  have c0 : w.cell? ⟨b, 0, none⟩ = some (.string ⟨l.toArray⟩) := hb.cell 0
  have f0 : w.frozen? ⟨b, 0, none⟩ = false := hb.frozen 0
  have hT : ∀ W : World, Calls Tryz.prog 118 #[.string ⟨l.toArray⟩, .string ⟨#[0]⟩] W fun e w' => e = .returned (.string ⟨(Lib.trimB l 0).toArray⟩) ∧ (w' = W ∨ w' = W.drew) :=
    fun W => Tryz.strings_Trim_one ⟨l.toArray⟩ 0 (by decide) W (by show l.toArray.size ≤ _; simp at hs ⊢; omega)
  have H2 : Upd w b 170 (rdr ⟨#[]⟩ sh) (w.setCell ⟨b, 0, none⟩ (.string ⟨#[]⟩)) := (Upd.refl hb).set 0 _
  have HH := Lib.hid H2
  have HT := Lib.hid hT
  have hz : l.all (· == 0) = decide (Lib.trimB l 0 = []) := by
    rw [Bool.eq_iff_iff, decide_eq_true_iff, trimB_nil, List.all_eq_true]
    simp
  simp only [hz]
  clear hz hb h hT H2
  generalize Lib.trimB l 0 = Z at HT ⊢
  go_enter Tryz.func98, Tryz.ntmps98
  go_wp2_with fail
  refine (HT.out _).mono ?_
  rintro e w2 ⟨rfl, hw⟩
  have hR : Upd w b 170 (rdr ⟨#[]⟩ sh) w2 := by
    rcases hw with rfl | rfl
    · exact HH.out
    · exact HH.out.drew
  have HR := Lib.hid hR
  clear hw hR
  go_wp2_with fail
  go_ret
  exact ⟨Z13 (by cases Z <;> simp), HR.out⟩


/-- The reader's deeds leave the writer. -/
theorem Ws.reader {A w w' : World} {b b2 : Nat} {L : List UInt8} {cs cs' : Array Value} (h : Ws A b L w) (h2 : Blk w b2 170 cs) (hb : b < b2) (hU : Upd w b2 170 cs' w') : Ws A b L w' := by
  obtain ⟨g, hW, hg, hA, hs⟩ := h
  have hne : ∀ k, g = some k → k ≠ b2 := by
    intro k hk e
    subst e
    obtain ⟨v, hown, hv⟩ : ∃ v, w.ownsRowF 0 5 1 v L.length (Lib.byteCells L) ∧ v.ownBlock = g := by
      rcases hW with ⟨v, _, h3, h4⟩ | ⟨v, _, h3, h4⟩
      · exact ⟨v, h3, h4⟩
      · exact ⟨v, h3, h4⟩
    exact Lib.ownBlock_neF hown h2 (by decide) (by rw [hv, hk])
  refine ⟨g, hW.keep (hU.grown.block b hW.lt (by simp; omega)) (fun k hk => hU.grown.block k (hW.own_lt k hk) (by simpa using hne k hk)), hg, hA.grown hU.grown hs (fun k e => by injection e with e; omega), Nat.le_trans hs hU.grown.size⟩
theorem Wr.apart {w : World} {b b2 : Nat} {g : Option Nat} {L : List UInt8} {cs : Array Value} {t : TypeId} (hW : Wr w b g L) (h2 : Blk w b2 t cs) (ht : t ≠ 5) : g ≠ some b2 := by
  intro hk
  obtain ⟨v, hown, hv⟩ : ∃ v, w.ownsRowF 0 5 1 v L.length (Lib.byteCells L) ∧ v.ownBlock = g := by
    rcases hW with ⟨v, _, h3, h4⟩ | ⟨v, _, h3, h4⟩
    · exact ⟨v, h3, h4⟩
    · exact ⟨v, h3, h4⟩
  exact Lib.ownBlock_neF hown h2 ht (by rw [hv, hk])
/-- A deed of a writer; another block stays. -/
theorem Ws.deed {A w : World} {b b2 : Nat} {L L1 : List UInt8} {t : TypeId} {cs : Array Value} (h : Ws A b L w) (h2 : Blk w b2 t cs) (ht : t ≠ 5) (hb : b2 ≠ b) {f : FuncId} {args : Array Value} {v : Value}
    (hc : ∀ g, Wr w b g L → Calls Tryz.prog f args w fun e w' => e = .returned v ∧ ∃ g1, Wr w' b g1 L1 ∧ Wrote w b g g1 w') : Calls Tryz.prog f args w fun e w' => e = .returned v ∧ Ws A b L1 w' ∧ Blk w' b2 t cs := by
  obtain ⟨g, hW, hg, hA, hs⟩ := h
  have hne := hW.apart h2 ht
  refine (hc g hW).mono ?_
  rintro e w' ⟨rfl, g', hW', hK⟩
  exact ⟨rfl, ⟨g', hW', hK.own_from hs hg, hK.below hA hs (Nat.le_refl _) hg, Nat.le_trans hs hK.size⟩, (hK.block b2 h2.lt hb (fun e => hne e.symm)).trans h2⟩

theorem Z84 {A w : World} {b b2 : Nat} {L : List UInt8} {t : TypeId} {cs : Array Value} (h : Ws A b L w) (h2 : Blk w b2 t cs) (ht : t ≠ 5) (hb : b2 ≠ b) (n : Nat) (size : Int) (k : Nat) (hk : clampSize size = k) (hn : n < 18446744073709551616) (hlen : L.length + 8 ≤ 140737488355328) :
    Calls Tryz.prog 75 #[.pointer (some ⟨b, 0, none⟩), .int .u64 n, .int .i64 size] w fun e w' => e = .returned (.tuple #[]) ∧ Ws A b (L ++ le n k) w' ∧ Blk w' b2 t cs :=
  hk ▸ h.deed h2 ht hb (fun g h => put_any _ g L n size _ hn h (by omega))

/-- The first four numbers. -/
def fourN (lv n : Nat) (j : Nat) : Nat := match j with | 0 => 76 | 1 => lv | 2 => n | _ => 0
def fourL (lv n : Nat) (j : Nat) : List UInt8 := match j with | 0 => [] | 1 => [] ++ le 76 1 | 2 => [] ++ le 76 1 ++ le lv 1 | 3 => [] ++ le 76 1 ++ le lv 1 ++ le n 1 | _ => hdL lv n
theorem fourL_succ (lv n j : Nat) (h : j < 4) : fourL lv n (j + 1) = fourL lv n j ++ le (fourN lv n j) 1 := by
  rcases (show j = 0 ∨ j = 1 ∨ j = 2 ∨ j = 3 by omega) with rfl | rfl | rfl | rfl <;> rfl
theorem Z7u (lv n j : Nat) (h : j ≤ 4) : (fourL lv n j).length = j := by
  rcases (show j = 0 ∨ j = 1 ∨ j = 2 ∨ j = 3 ∨ j = 4 by omega) with rfl | rfl | rfl | rfl | rfl <;> simp [fourL, hdL, Z0i]
theorem four_cell {W : World} {Y lv n : Nat} (h : Blk W Y 3 #[.int .i64 76, .int .i64 lv, .int .i64 n, .int .i64 0]) (j : Nat) (hj : j < 4) : W.cell? ⟨Y, j, none⟩ = some (.int .i64 (fourN lv n j)) := by
  rcases (show j = 0 ∨ j = 1 ∨ j = 2 ∨ j = 3 by omega) with rfl | rfl | rfl | rfl
  · exact h.cell 0
  · exact h.cell 1
  · exact h.cell 2
  · exact h.cell 3

set_option maxRecDepth 100000 in
set_option maxHeartbeats 2000000 in
theorem lbytes_yes (lv : Nat) (A : Option Addr) (len cap : Nat) (xs : List (Nat × Nat)) (w : World) (hlen : xs.length = len) (hrow : Row w A 2 pairC xs) (hx : ∀ x ∈ xs, x.1 < 18446744073709551616 ∧ x.2 < 18446744073709551616) (hg : goodB lv xs = true) :
    Calls Tryz.prog 93 #[.agg #[.int .i64 lv, .slice A len cap]] w fun e w' => e = .returned (.tuple #[.string ⟨(sealL (leafL lv xs)).toArray⟩, .int .i64 0]) ∧ Ext w w' := by
  have hgg : lv < 8 ∧ xs.length ≤ 15 := by
    unfold goodB at hg
    simp only [Bool.and_eq_true, decide_eq_true_eq] at hg
    omega
  obtain ⟨hlv, hl15⟩ := hgg
  rw [hlen] at hl15
  have hE := Ext.alloc w (.cells #[.int .i64 lv, .slice A len cap] 47)
  have hX : Blk (w.alloc (.cells #[.int .i64 lv, .slice A len cap] 47)) w.heap.size 47 #[.int .i64 lv, .slice A len cap] := Blk.new _ _ _
  have hrow1 := hrow.ext hE
  have HG := Lib.hid (Z6x lv A len cap xs _ hlen (by omega) hrow1 (fun x h => (hx x h).1))
  rw [hg] at HG
  have hsx : w.heap.size < (w.alloc (.cells #[.int .i64 lv, .slice A len cap] 47)).heap.size := hX.lt
  have HE := Lib.hid hE
  clear hE hg hrow
  go_enter Tryz.func93, Tryz.ntmps93
  go_wp2_with fail
  refine HG.out.mono ?_
  rintro e w1 ⟨rfl, R1⟩
  have hX1 := hX.ext R1
  have hrow2 := hrow1.ext R1
  have E1 := Lib.hid (HE.out.trans R1)
  have hs1 : w.heap.size < w1.heap.size := hX1.lt
  clear hX hrow1 HG HE R1 hsx
  have W0 : Ws w1 w1.heap.size [] (w1.alloc (.cells #[.pointer none, .slice none 0 0] 132)) := Ws.new_ rfl
  have q0 := (W0.blk hX1 hs1).cell 0
  have q1 := (W0.blk hX1 hs1).cell 1
  go_upto_region 5 with fail
  have W1 := W0.alloc (.cells #[.int .i64 76, .int .i64 lv, .int .i64 len, .int .i64 0] 3)
  have hY : Blk ((w1.alloc (.cells #[.pointer none, .slice none 0 0] 132)).alloc (.cells #[.int .i64 76, .int .i64 lv, .int .i64 len, .int .i64 0] 3)) (w1.heap.size + 1) 3 #[.int .i64 76, .int .i64 lv, .int .i64 len, .int .i64 0] := by
    have := Blk.new (w1.alloc (.cells #[.pointer none, .slice none 0 0] 132)) 3 #[.int .i64 76, .int .i64 lv, .int .i64 len, .int .i64 0]
    simpa using this
  clear W0 q0 q1
  go_loopw [6, 19] (fun _ i wr => ∃ j : Nat, j ≤ 4 ∧ i = .int .i64 j ∧ Ws w1 w1.heap.size (fourL lv len j) wr ∧ Blk wr (w1.heap.size + 1) 3 #[.int .i64 76, .int .i64 lv, .int .i64 len, .int .i64 0]) (fun _ i _ => 4 - (intOf i).toNat)
  case atStart => exact ⟨0, by omega, rfl, W1, hY⟩
  case round =>
    clear W1 hY
    obtain ⟨j, hj, rfl, hW, hY⟩ := hrel
    by_cases hlt : j < 4
    · have q0 := four_cell hY j hlt
      have hn : fourN lv len j < 256 := by
        rcases (show j = 0 ∨ j = 1 ∨ j = 2 ∨ j = 3 by omega) with rfl | rfl | rfl | rfl <;> simp [fourN] <;> omega
      have hd := Z84 hW hY (by decide) (by omega) (fourN lv len j) 1 1 (by decide) (by omega) (by rw [Z7u lv len j hj]; omega)
      rw [← fourL_succ lv len j hlt] at hd
      have HD := Lib.hid hd
      generalize fourN lv len j = v at q0 hn HD
      have hwr : IntKind.u64.wrap (v : Int) = (v : Int) := by simp [IntKind.wrap, IntKind.bits, IntKind.signed]; omega
      clear hd hW hY
      go_wp2_with fail
      refine HD.out.mono ?_
      rintro e w2 ⟨rfl, hW, hY⟩
      clear q0
      go_wp2_with fail
      go_roundw
      case rel => exact ⟨j + 1, by omega, by go_num, hW, hY⟩
      case measure => simp [intOf]; omega
    · obtain rfl : j = 4 := by omega
      rw [show ((4 : Nat) : Int) = 4 from rfl]
      have hW : Ws w1 w1.heap.size (hdL lv len ++ pairsL (xs.take 0)) wr := by
        have : fourL lv len 4 = hdL lv len ++ pairsL (xs.take 0) := by simp [fourL, pairsL]
        rw [← this]; exact hW
      have q1 := (hW.blk hX1 hs1).cell 1
      clear hY
      go_upto_region 10 with fail
      clear q1
      go_loopw [8, 30] (fun _ i wr => ∃ j : Nat, j ≤ len ∧ i = .int .i64 j ∧ Ws w1 w1.heap.size (hdL lv len ++ pairsL (xs.take j)) wr) (fun _ i _ => len - (intOf i).toNat)
      case atStart => exact ⟨0, by omega, rfl, hW⟩
      case round =>
        clear hW
        obtain ⟨j, hj, rfl, hW⟩ := hrel
        by_cases hlt : j < len
        · obtain ⟨b0, o0, rfl, hlt0, q0, q1⟩ := hrow2.pair_in hW.below_ (show j < xs.length by omega)
          obtain ⟨hk1, hk2⟩ := hx _ (List.getElem_mem (show j < xs.length by omega))
          have hLt := pairsL_take xs (show j < xs.length by omega)
          have hLl : (hdL lv len ++ pairsL (xs.take j)).length ≤ 1000 := by
            rw [List.length_append, Z2v, Z1m, List.length_take]; omega
          have hL2 : hdL lv len ++ pairsL (xs.take j) ++ le xs[j].1 8 ++ le xs[j].2 8 = hdL lv len ++ pairsL (xs.take (j + 1)) := by rw [hLt]; simp
          have HL2 := Lib.hid hL2
          clear hLt hL2
          generalize hdL lv len ++ pairsL (xs.take j) = L at hW hLl HL2
          generalize xs[j].1 = K at q0 hk1 HL2
          generalize xs[j].2 = V at q1 hk2 HL2
          have hP : Blk (wr.alloc (.cells #[.int .u64 K, .int .u64 V] 98)) wr.heap.size 98 #[.int .u64 K, .int .u64 V] := Blk.new _ _ _
          have hne : wr.heap.size ≠ w1.heap.size := by have := hW.size; omega
          have C1 := Z84 (hW.alloc (.cells #[.int .u64 K, .int .u64 V] 98)) hP (by decide) hne K 8 8 (by decide) hk1 (by omega)
          clear hW hP
          go_wp2_with fail
          refine C1.mono ?_
          rintro e w2 ⟨rfl, hW, hP⟩
          clear q0 q1 C1
          have q1 := hP.cell 1
          have C2 := Z84 hW hP (by decide) hne V 8 8 (by decide) hk2 (by simp [Z0i]; omega)
          rw [HL2.out] at C2
          clear hW hP
          go_wp2_with fail
          refine C2.mono ?_
          rintro e w3 ⟨rfl, hW, hP⟩
          clear C2 q1 hP
          go_wp2_with fail
          go_roundw
          case rel => exact ⟨j + 1, by omega, by go_num, hW⟩
          case measure => simp [intOf]; omega
        · obtain rfl : j = len := by omega
          have hLe : hdL lv j ++ pairsL (xs.take j) = hdL lv j ++ pairsL xs := by rw [List.take_of_length_le (by omega)]
          have hLl : (hdL lv j ++ pairsL xs).length ≤ 1000 := by rw [List.length_append, Z2v, Z1m]; omega
          rw [hLe] at hW
          have hfin : fillL (hdL lv j ++ pairsL xs) 252 = leafL lv xs := by unfold leafL; rw [hlen]
          have hll := Z27 lv xs (by omega)
          have C1 := ws_fill hW 252 (by decide) (by omega)
          rw [hfin] at C1
          obtain ⟨L, hLL⟩ : ∃ L, leafL lv xs = L := ⟨_, rfl⟩
          rw [hLL] at C1 hll
          have HLL := Lib.hid hLL
          clear hLL
          clear hW hfin hLe hLl hrow2 hx
          go_wp2_with fail
          refine C1.mono ?_
          rintro e w2 ⟨rfl, hW⟩
          clear C1
          have C2 := ws_str hW
          go_wp2_with fail
          refine C2.mono ?_
          rintro e w3 ⟨rfl, hW⟩
          clear C2
          have hEx := E1.out.trans hW.below_
          clear hW
          go_wp2_with fail
          refine (Z6n ⟨L.toArray⟩ _ (by show L.toArray.size ≤ _; rw [List.size_toArray, hll]; decide)).mono ?_
          rintro e w4 ⟨rfl, hb4⟩
          go_wp2_with fail
          go_ret2
          exact ⟨by rw [HLL.out]; rfl, hEx.trans hb4⟩
end Go.Proofs.YtakkhglbdljfiaaGreatDoor
