/- The walks of the reference of package mains, and of mains on a nil pointer. -/
import Derived.Test.YtkeloklncjfddaaMains
namespace Go.Proofs.Ytkeloklncjfddaa
open Go.RowKit

def mref (on : Bool) (fuse lives uses : Int) : Array Value := #[.bool on, .int .i64 fuse, .int .i64 lives, .int .i64 uses]

theorem mref_cells {w : World} {g : Nat} {on : Bool} {fuse lives uses : Int} (h : Blk w g 64 (mref on fuse lives uses)) :
    w.cell? ⟨g, 0, none⟩ = some (.bool on) ∧ w.cell? ⟨g, 1, none⟩ = some (.int .i64 fuse) ∧ w.cell? ⟨g, 2, none⟩ = some (.int .i64 lives) ∧ w.cell? ⟨g, 3, none⟩ = some (.int .i64 uses) ∧
    w.frozen? ⟨g, 0, none⟩ = false ∧ w.frozen? ⟨g, 1, none⟩ = false ∧ w.frozen? ⟨g, 2, none⟩ = false ∧ w.frozen? ⟨g, 3, none⟩ = false :=
  ⟨h.cell 0, h.cell 1, h.cell 2, h.cell 3, h.frozen 0, h.frozen 1, h.frozen 2, h.frozen 3⟩

theorem rnew_any (w : World) : Calls Try.prog 36 #[] w fun e w' => e = .returned (.pointer (some ⟨w.heap.size, 0, none⟩)) ∧ Upd w w.heap.size 64 (mref true (-1) 1 0) w' := by
  go_enter Try.func36, Try.ntmps36
  go_wp2
  go_ret
  exact ⟨rfl, Blk.new _ _ _, only_alloc (World.grownBy.refl w _) _⟩

set_option maxHeartbeats 400000 in
theorem ruse_ok (g : Nat) (fuse lives uses : Int) (w : World) (h : Blk w g 64 (mref true fuse lives uses)) (hf : fuse ≠ 0) (h0 : -1 ≤ fuse) (h1 : fuse ≤ 9223372036854775807) (h2 : 0 ≤ uses) (h3 : uses ≤ 1000000000000000000) :
    Calls Try.prog 37 #[.pointer (some ⟨g, 0, none⟩)] w fun e w' => e = .returned (.bool true) ∧ Upd w g 64 (mref true (max (fuse - 1) (-1)) lives (uses + 1)) w' := by
  obtain ⟨c0, c1, c2, c3, f0, f1, f2, f3⟩ := mref_cells h
  have hz : ((fuse : Int) == 0) = false := by simp [hf]
  have H := Lib.hid h
  clear h
  go_enter Try.func37, Try.ntmps37
  go_wp2
  all_goals
    go_ret
    refine ⟨rfl, ?_⟩
    have K := ((Upd.refl H.out).set 1 (.int .i64 (max (fuse - 1) (-1)))).set 3 (.int .i64 (uses + 1))
  · rw [show max (fuse - 1) (-1) = -1 by omega] at K ⊢; exact K
  · rw [show max (fuse - 1) (-1) = fuse - 1 by omega] at K ⊢; exact K

theorem ruse_down (g : Nat) (on : Bool) (fuse lives uses : Int) (w : World) (h : Blk w g 64 (mref on fuse lives uses)) (hf : (!on || fuse == 0) = true) :
    Calls Try.prog 37 #[.pointer (some ⟨g, 0, none⟩)] w fun e w' => e = .returned (.bool false) ∧ Upd w g 64 (mref false fuse lives uses) w' := by
  obtain ⟨c0, c1, c2, c3, f0, f1, f2, f3⟩ := mref_cells h
  have H := Lib.hid h
  clear h
  cases on
  · clear hf
    go_enter Try.func37, Try.ntmps37
    go_wp2
    go_ret
    exact ⟨rfl, Upd.refl H.out⟩
  · have hz : ((fuse : Int) == 0) = true := by simpa using hf
    clear hf
    go_enter Try.func37, Try.ntmps37
    go_wp2
    go_ret
    exact ⟨rfl, (Upd.refl H.out).set 0 (.bool false)⟩

theorem rcome_away (g : Nat) (fuse lives uses : Int) (w : World) (h : Blk w g 64 (mref false fuse lives uses)) (h0 : 0 ≤ lives) (h1 : lives ≤ 1000000000000000000) :
    Calls Try.prog 39 #[.pointer (some ⟨g, 0, none⟩)] w fun e w' => e = .returned (.tuple #[]) ∧ Upd w g 64 (mref true (-1) (lives + 1) uses) w' := by
  obtain ⟨c0, c1, c2, c3, f0, f1, f2, f3⟩ := mref_cells h
  have H := Lib.hid h
  clear h
  go_enter Try.func39, Try.ntmps39
  go_wp2
  go_end0
  exact ⟨rfl, (((Upd.refl H.out).set 0 (.bool true)).set 1 (.int .i64 (-1))).set 2 (.int .i64 (lives + 1))⟩

theorem rcome_there (g : Nat) (fuse lives uses : Int) (w : World) (h : Blk w g 64 (mref true fuse lives uses)) :
    Calls Try.prog 39 #[.pointer (some ⟨g, 0, none⟩)] w fun e w' => e = .returned (.tuple #[]) ∧ w = w' := by
  obtain ⟨c0, c1, c2, c3, f0, f1, f2, f3⟩ := mref_cells h
  clear h
  go_enter Try.func39, Try.ntmps39
  go_wp2
  go_end0
  exact ⟨rfl, rfl⟩

theorem nil_fuse (n : Int) (w : World) : Calls Try.prog 30 #[.pointer none, .int .i64 n] w fun e w' => e = .returned (.tuple #[]) ∧ w = w' := by
  go_enter Try.func30, Try.ntmps30
  go_wp2
  go_end0
  exact ⟨rfl, rfl⟩
theorem nil_cut (w : World) : Calls Try.prog 38 #[.pointer none] w fun e w' => e = .returned (.tuple #[]) ∧ w = w' := by
  go_enter Try.func38, Try.ntmps38
  go_wp2
  go_end0
  exact ⟨rfl, rfl⟩
theorem nil_come (w : World) : Calls Try.prog 34 #[.pointer none] w fun e w' => e = .returned (.tuple #[]) ∧ w = w' := by
  go_enter Try.func34, Try.ntmps34
  go_wp2
  go_end0
  exact ⟨rfl, rfl⟩
end Go.Proofs.Ytkeloklncjfddaa
