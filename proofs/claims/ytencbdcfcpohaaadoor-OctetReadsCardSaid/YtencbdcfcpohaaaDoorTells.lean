/- Rows of bytes in a block of one's own, and the turning as a walk makes it. -/
import Derived.Test.YtencbdcfcpohaaaDoorTurn
import Derived.Test.YtencbdcfcpohaaaDoorConv
import Derived.Test.YtencbdcfcpohaaaDoorCastleRef
namespace Go.Proofs.YtencbdcfcpohaaaDoor
set_option linter.unusedVariables false
set_option linter.unusedSimpArgs false
open Go.RowKit

theorem modU (n m : Int) (h0 : 1 ≤ m) (h1 : m ≤ 1000000) : ∃ k : Nat, wrap64 ((IntKind.u64.wrap n).tmod m) = (k : Int) ∧ (k : Int) < m := by
  have hu : 0 ≤ IntKind.u64.wrap n := by simp [IntKind.wrap, IntKind.bits, IntKind.signed]; omega
  rw [Int.tmod_eq_emod_of_nonneg hu]
  have a := Int.emod_nonneg (IntKind.u64.wrap n) (show m ≠ 0 by omega)
  have b := Int.emod_lt_of_pos (IntKind.u64.wrap n) (show 0 < m by omega)
  generalize IntKind.u64.wrap n % m = x at a b
  refine ⟨x.toNat, ?_, by omega⟩
  rw [IntWalk.wrap64_in _ (by omega)]
  omega

/-- The cells of a row of bytes with room up to c. -/
def rowOf (L : List UInt8) (c : Nat) : Array Value := (Lib.byteCells L ++ List.replicate (c - L.length) (Value.int .u8 0)).toArray
theorem rowOf_get (L : List UInt8) (c i : Nat) (h : i < L.length) : (rowOf L c)[i]? = some (.int .u8 ((L.getD i 0).toNat : Int)) := by
  simp only [rowOf, List.getElem?_toArray]
  rw [List.getElem?_append_left (by simpa [Lib.byteCells] using h)]
  simp [Lib.byteCells, List.getD, h]
theorem rowOf_set (L : List UInt8) (c i : Nat) (x : UInt8) (h : i < L.length) : (rowOf L c).setIfInBounds i (.int .u8 (x.toNat : Int)) = rowOf (L.set i x) c := by
  apply Array.ext'
  simp only [rowOf, Array.toList_setIfInBounds, List.length_set]
  rw [List.set_append_left _ _ (by simpa [Lib.byteCells] using h)]
  simp [Lib.byteCells, List.map_set]
theorem conv_row (s : ByteArray) (w : World) (hs : s.size ≤ maxLen) : ∃ c : Nat, s.size ≤ c ∧ c ≤ maxLen ∧
    (convert 9 26 (.string s)).run Tryd.prog w = .ok (.slice (some ⟨w.heap.size, 0, none⟩) s.size c) (w.drew.alloc (.cells (rowOf s.data.toList c) 5 (c, c + 1))) := by
  obtain ⟨C, c, fz, hcv, hC, hc1, hc2, hc3, hfz⟩ := conv_bytes s w hs
  subst hfz
  refine ⟨c, hc1, hc2, ?_⟩
  have : C = rowOf s.data.toList c := by
    apply Array.ext_getElem?
    intro i
    rw [hC i]
    have hl : s.data.toList.length = s.size := by simp
    by_cases h1 : i < s.size
    · rw [if_pos h1, rowOf_get _ _ _ (by omega)]
    · rw [if_neg h1]
      simp only [rowOf, List.getElem?_toArray]
      rw [List.getElem?_append_right (by simp [Lib.byteCells]; omega), List.getElem?_replicate]
      simp only [Lib.byteCells, List.length_map, hl]
      by_cases h2 : i < c
      · rw [if_pos h2, if_pos (by omega)]
      · rw [if_neg h2, if_neg (by omega)]
  rw [hcv, this]

/-- Block g holds the bytes L, with room up to c behind them; none of them is frozen. -/
def Bytes (w : World) (g : Nat) (L : List UInt8) (c : Nat) : Prop := ∃ fz : Nat × Nat, w.heap[g]? = some (.cells (rowOf L c) 5 fz) ∧ (fz = (0, 0) ∨ c ≤ fz.1)
section
variable {w w' : World} {g c : Nat} {L : List UInt8}
theorem Bytes.lt (h : Bytes w g L c) : g < w.heap.size := by
  obtain ⟨fz, h, _⟩ := h
  rcases Nat.lt_or_ge g w.heap.size with hlt | hge
  · exact hlt
  · rw [Array.getElem?_eq_none hge] at h; cases h
theorem Bytes.cell (h : Bytes w g L c) {i : Nat} (hi : i < L.length) : w.cell? ⟨g, i, none⟩ = some (.int .u8 ((L.getD i 0).toNat : Int)) := by
  obtain ⟨fz, h, _⟩ := h
  exact (cell_of_row w g i _ _ _ h).trans (rowOf_get L c i hi)
theorem Bytes.frozen (h : Bytes w g L c) {i : Nat} (hi : i < c) : w.frozen? ⟨g, i, none⟩ = false := by
  obtain ⟨⟨a, b⟩, h, hf⟩ := h
  rcases hf with hf | hf
  · injection hf with ha hb
    subst ha hb
    simp [World.frozen?, h]
  · simp only at hf
    simp [World.frozen?, h]
    omega
theorem Bytes.set_ (h : Bytes w g L c) {i : Nat} (hi : i < L.length) (x : UInt8) : Bytes (w.setCell ⟨g, i, none⟩ (.int .u8 (x.toNat : Int))) g (L.set i x) c := by
  obtain ⟨fz, h, hf⟩ := h
  refine ⟨fz, ?_, hf⟩
  rw [← rowOf_set L c i x hi]
  simp [World.setCell, Array.getElem?_modify, h]
theorem Bytes.below (h : Bytes w g L c) (hb : Below w.heap.size w w') : Bytes w' g L c := by
  have hlt := h.lt
  obtain ⟨fz, h, hf⟩ := h
  exact ⟨fz, (hb.block g hlt).trans h, hf⟩
theorem Bytes.drew (h : Bytes w g L c) : Bytes w.drew g L c := h
theorem Bytes.drewN (h : Bytes w g L c) (n : Nat) : Bytes (w.drewN n) g L c := h
theorem Bytes.new_ : Bytes (w.alloc (.cells (rowOf L c) 5 (c, c + 1))) w.heap.size L c := ⟨_, heap_alloc_new w _, .inr (Nat.le_refl _)⟩
theorem Bytes.made : Bytes (w.alloc (.cells (rowOf L c) 5)) w.heap.size L c := ⟨_, heap_alloc_new w _, .inl rfl⟩
theorem Bytes.conv (h : Bytes w g L c) (cap n : Nat) (hn : L.length = n) : (convert 26 9 (.slice (some ⟨g, 0, none⟩) n cap)).run Tryd.prog w = .ok (.string ⟨L.toArray⟩) w :=
  conv_string w g 0 cap L n hn (fun i hi => by rw [Nat.zero_add]; exact h.cell (by omega))
end

/-- The turning, byte by byte. -/
def turnTo (t : List UInt8) (k m : Nat) : Nat → List UInt8
  | 0 => t
  | j + 1 => (turnTo t k m j).set (k + j) ((turnTo t k m j).getD (k + j) 0 ^^^ UInt8.ofNat (m / 256 ^ j))
theorem turnTo_length (t : List UInt8) (k m j : Nat) : (turnTo t k m j).length = t.length := by
  induction j with
  | zero => rfl
  | succ j ih => simp [turnTo, ih]
theorem turnTo_get (t : List UInt8) (k m j i : Nat) : (turnTo t k m j)[i]? = t[i]?.map fun x => if k ≤ i ∧ i < k + j then x ^^^ UInt8.ofNat (m / 256 ^ (i - k)) else x := by
  induction j with
  | zero =>
    have e : ∀ x : UInt8, (if k ≤ i ∧ i < k + 0 then x ^^^ UInt8.ofNat (m / 256 ^ (i - k)) else x) = x := fun x => if_neg (by omega)
    simp only [turnTo, e, Option.map_id']
  | succ j ih =>
    simp only [turnTo, List.getElem?_set, turnTo_length]
    by_cases hi : k + j = i
    · subst hi
      rw [if_pos rfl]
      by_cases hl : k + j < t.length
      · rw [if_pos hl]
        have hg : (turnTo t k m j).getD (k + j) 0 = t[k + j] := by
          simp only [List.getD, ih, List.getElem?_eq_getElem hl, Option.map_some, Option.getD_some]
          rw [if_neg (by omega)]
        rw [hg, List.getElem?_eq_getElem hl, Option.map_some, if_pos (by omega), show k + j - k = j by omega]
      · rw [if_neg hl, List.getElem?_eq_none (by omega)]
        rfl
    · rw [if_neg hi, ih]
      congr 1
      funext x
      by_cases h1 : k ≤ i ∧ i < k + j
      · rw [if_pos h1, if_pos (by omega)]
      · rw [if_neg h1, if_neg (by omega)]
theorem err_get (n k m i : Nat) (hk : k ≤ n) (hi : i < n + 4) : (err n k m)[i]? = some (if k ≤ i ∧ i < k + 4 then UInt8.ofNat (m / 256 ^ (i - k)) else 0) := by
  unfold err
  by_cases h1 : i < k
  · rw [List.getElem?_append_left (by simp [le_length]; omega), List.getElem?_append_left (by simp; omega), List.getElem?_replicate, if_pos h1, if_neg (by omega)]
  · by_cases h2 : i < k + 4
    · rw [List.getElem?_append_left (by simp [le_length]; omega), List.getElem?_append_right (by simp; omega), List.length_replicate, le_get m 4 _ (by omega), if_pos (by omega)]
    · rw [List.getElem?_append_right (by simp [le_length]; omega), List.getElem?_replicate, if_pos (by simp [le_length]; omega), if_neg (by omega)]
theorem turnTo_xor (t : List UInt8) (n k m : Nat) (ht : t.length = n + 4) (hk : k ≤ n) : turnTo t k m 4 = xorL t (err n k m) := by
  apply List.ext_getElem?
  intro i
  rw [turnTo_get]
  simp only [xorL, List.getElem?_zipWith]
  by_cases hi : i < n + 4
  · rw [List.getElem?_eq_getElem (by omega), err_get n k m i hk hi]
    simp only [Option.map_some]
    by_cases h1 : k ≤ i ∧ i < k + 4
    · simp [h1]
    · simp [h1]
  · rw [List.getElem?_eq_none (by omega), List.getElem?_eq_none (by rw [err_length n k m hk]; omega)]
    rfl
theorem turn_zero (t : List UInt8) (k j : Nat) : turnTo t k 0 j = t := by
  apply List.ext_getElem?
  intro i
  rw [turnTo_get]
  cases h : t[i]? with
  | none => rfl
  | some x => simp
end Go.Proofs.YtencbdcfcpohaaaDoor
