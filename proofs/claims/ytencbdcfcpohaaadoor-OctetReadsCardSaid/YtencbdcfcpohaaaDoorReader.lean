/- The walks of octet.Reader: Of, Take, Get, End. -/
import Derived.Test.YtencbdcfcpohaaaDoorOctet
import Derived.Test.YtencbdcfcpohaaaDoorCastle
namespace Go.Proofs.YtencbdcfcpohaaaDoor
set_option linter.unusedVariables false
set_option linter.unusedSimpArgs false
open Go.RowKit

/-- A reader's cells: what is left, and whether there were too few bytes. -/
def rdr (s : ByteArray) (short : Bool) : Array Value := #[.string s, .bool short]

theorem of_any (s : ByteArray) (w : World) : Calls Tryd.prog 17 #[.string s] w fun e w' => e = .returned (.pointer (some ⟨w.heap.size, 0, none⟩)) ∧ Upd w w.heap.size 86 (rdr s false) w' := by
  go_enter Tryd.func17, Tryd.ntmps17
  go_wp2
  go_ret
  exact ⟨rfl, Blk.new _ _ _, only_alloc (World.grownBy.refl w _) _⟩

/-- The next bytes: with enough of them. -/
theorem take_yes (g : Nat) (s : ByteArray) (short : Bool) (n : Nat) (w : World) (h : Blk w g 86 (rdr s short)) (hn : n ≤ s.size) (hs : s.size ≤ 9223372036854775807) :
    Calls Tryd.prog 22 #[.pointer (some ⟨g, 0, none⟩), .int .i64 n] w fun e w' => e = .returned (.string (s.extract 0 n)) ∧ Upd w g 86 (rdr (s.extract n s.size) short) w' := by
  have c0 : w.cell? ⟨g, 0, none⟩ = some (.string s) := h.cell 0
  have c1 : w.cell? ⟨g, 1, none⟩ = some (.bool short) := h.cell 1
  have f0 : w.frozen? ⟨g, 0, none⟩ = false := h.frozen 0
  have f1 : w.frozen? ⟨g, 1, none⟩ = false := h.frozen 1
  have H := Lib.hid h
  clear h
  go_enter Tryd.func22, Tryd.ntmps22
  go_wp2
  go_ret
  exact ⟨rfl, (Upd.refl H.out).set 0 _⟩
theorem take_short (g : Nat) (s : ByteArray) (short : Bool) (n : Nat) (w : World) (h : Blk w g 86 (rdr s short)) (hn : s.size < n) (hn2 : n ≤ 9223372036854775807) :
    Calls Tryd.prog 22 #[.pointer (some ⟨g, 0, none⟩), .int .i64 n] w fun e w' => e = .returned (.string ⟨#[]⟩) ∧ Upd w g 86 (rdr ⟨#[]⟩ true) w' := by
  have c0 : w.cell? ⟨g, 0, none⟩ = some (.string s) := h.cell 0
  have c1 : w.cell? ⟨g, 1, none⟩ = some (.bool short) := h.cell 1
  have f0 : w.frozen? ⟨g, 0, none⟩ = false := h.frozen 0
  have f1 : w.frozen? ⟨g, 1, none⟩ = false := h.frozen 1
  have H := Lib.hid h
  clear h
  go_enter Tryd.func22, Tryd.ntmps22
  go_wp2
  go_ret
  exact ⟨rfl, ((Upd.refl H.out).set 0 _).set 1 _⟩
theorem take_neg (g : Nat) (s : ByteArray) (short : Bool) (n : Int) (w : World) (hn : n < 0) :
    Calls Tryd.prog 22 #[.pointer (some ⟨g, 0, none⟩), .int .i64 n] w fun e w' => e = .returned (.string ⟨#[]⟩) ∧ w = w' := by
  go_enter Tryd.func22, Tryd.ntmps22
  go_wp2
  go_ret
  exact ⟨rfl, rfl⟩
theorem end_yes (g : Nat) (s : ByteArray) (w : World) (h : Blk w g 86 (rdr s false)) (h0 : s.size = 0) :
    Calls Tryd.prog 24 #[.pointer (some ⟨g, 0, none⟩)] w fun e w' => e = .returned (.int .i64 0) ∧ w = w' := by
  have c0 : w.cell? ⟨g, 0, none⟩ = some (.string s) := h.cell 0
  have c1 : w.cell? ⟨g, 1, none⟩ = some (.bool false) := h.cell 1
  clear h
  have hz : s.toList.isEmpty = true := by rw [ByteArray.toList_eq]; simp; exact Array.eq_empty_of_size_eq_zero h0
  go_enter Tryd.func24, Tryd.ntmps24
  go_wp2
  go_ret
  exact ⟨rfl, rfl⟩
theorem end_no (g : Nat) (s : ByteArray) (short : Bool) (w : World) (h : Blk w g 86 (rdr s short)) (h0 : short = false → s.size ≠ 0) :
    Calls Tryd.prog 24 #[.pointer (some ⟨g, 0, none⟩)] w fun e w' => e = .returned (.int .i64 3) ∧ w = w' := by
  have c0 : w.cell? ⟨g, 0, none⟩ = some (.string s) := h.cell 0
  have c1 : w.cell? ⟨g, 1, none⟩ = some (.bool short) := h.cell 1
  clear h
  cases short
  · have hz : s.toList.isEmpty = false := by rw [ByteArray.toList_eq]; simp; exact fun e => h0 rfl (by rw [ByteArray.size, e]; rfl)
    clear h0
    go_enter Tryd.func24, Tryd.ntmps24
    go_wp2
    go_ret
    exact ⟨rfl, rfl⟩
  · clear h0
    go_enter Tryd.func24, Tryd.ntmps24
    go_wp2
    go_ret
    exact ⟨rfl, rfl⟩
end Go.Proofs.YtencbdcfcpohaaaDoor
