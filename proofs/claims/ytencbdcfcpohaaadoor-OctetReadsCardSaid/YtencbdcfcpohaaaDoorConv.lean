/- '[]byte(s)' and 'string(b)': what the walk needs of them. -/
import Derived.Test.YtencbdcfcpohaaaDoorMem
import Derived.Laws.IdiomStrings
import Derived.Laws.BytesArg
namespace Go.Proofs.YtencbdcfcpohaaaDoor
set_option linter.unusedVariables false
set_option linter.unusedSimpArgs false
open Go.RowKit

/-- '[]byte(s)': a new block of the bytes. -/
theorem conv_bytes (s : ByteArray) (w : World) (hs : s.size ≤ maxLen) : ∃ (C : Array Value) (c : Nat) (fz : Nat × Nat),
    (convert 9 26 (.string s)).run Tryd.prog w = .ok (.slice (some ⟨w.heap.size, 0, none⟩) s.size c) (w.drew.alloc (.cells C 5 fz)) ∧
    (∀ i, C[i]? = if i < s.size then some (.int .u8 ((s.data.toList.getD i 0).toNat : Int)) else if i < c then some (.int .u8 0) else none) ∧ s.size ≤ c ∧ c ≤ maxLen ∧ C.size = c ∧ fz = (c, c + 1) := by
  have hge := grownCap_ge w s.size 0 5
  have hle := grownCap_le_maxLen w s.size 0 5 hs
  have hsz : (bytesRow s (grownCap w s.size 0 5)).size = grownCap w s.size 0 5 := by
    simp only [bytesRow, Array.size_append, Array.size_map, Array.size_replicate]
    have : s.data.size = s.size := rfl
    omega
  refine ⟨_, _, _, run_bytes_of_string w 9 26 5 s Tryd.underlying9 Tryd.underlying26 Tryd.underlying5, fun i => ?_, hge, hle, hsz, by rw [hsz]⟩
  have hd : s.data.size = s.size := rfl
  by_cases hi : i < s.size
  · rw [if_pos hi, bytesRow_at s _ i (by omega)]
    congr 3
    simp [List.getD, Array.getElem?_toList, hd, hi]
  · rw [if_neg hi]
    by_cases hc : i < grownCap w s.size 0 5
    · rw [if_pos hc]
      simp only [bytesRow]
      rw [Array.getElem?_append_right (by simp only [Array.size_map]; omega), Array.getElem?_replicate, if_pos (by simp only [Array.size_map]; omega)]
    · rw [if_neg hc]
      exact Array.getElem?_eq_none (by omega)

/-- 'string(b)': of a row whose cells are the bytes l. -/
theorem conv_string (w : World) (g off cap : Nat) (l : List UInt8) (n : Nat) (hn : l.length = n) (h : ∀ i, i < n → w.cell? ⟨g, off + i, none⟩ = some (.int .u8 ((l.getD i 0).toNat : Int))) :
    (convert 26 9 (.slice (some ⟨g, off, none⟩) n cap)).run Tryd.prog w = .ok (.string ⟨l.toArray⟩) w := by
  have hr := run_convert_bytes_arg (P := Tryd.prog) w 26 5 Tryd.underlying26 Tryd.underlying5 g off n cap (l.map fun b => (b.toNat : Int)) (by simpa using hn) (fun i hi => by
    have hil : i < l.length := by omega
    rw [h i hi]
    simp [List.getD, hil]) 9 Tryd.underlying9
  have hst : strOfNums (l.map fun b => (b.toNat : Int)) = ⟨l.toArray⟩ := by
    simp [strOfNums, List.map_map, Function.comp_def]
  rw [hr, hst]
end Go.Proofs.YtencbdcfcpohaaaDoor
