/- The walks of package mains: each method on a block that holds its four fields. -/
import Derived.Test.YtkeloklncjfddaaMem
namespace Go.Proofs.Ytkeloklncjfddaa
open Go.RowKit

def mains (away : Bool) (fuse lives uses : Int) : Array Value := #[.bool away, .int .i64 fuse, .int .i64 lives, .int .i64 uses]

theorem mains_cells {w : World} {g : Nat} {away : Bool} {fuse lives uses : Int} (h : Blk w g 91 (mains away fuse lives uses)) :
    w.cell? ⟨g, 0, none⟩ = some (.bool away) ∧ w.cell? ⟨g, 1, none⟩ = some (.int .i64 fuse) ∧ w.cell? ⟨g, 2, none⟩ = some (.int .i64 lives) ∧ w.cell? ⟨g, 3, none⟩ = some (.int .i64 uses) ∧
    w.frozen? ⟨g, 0, none⟩ = false ∧ w.frozen? ⟨g, 1, none⟩ = false ∧ w.frozen? ⟨g, 2, none⟩ = false ∧ w.frozen? ⟨g, 3, none⟩ = false :=
  ⟨h.cell 0, h.cell 1, h.cell 2, h.cell 3, h.frozen 0, h.frozen 1, h.frozen 2, h.frozen 3⟩

set_option maxHeartbeats 400000 in
theorem new_any (w : World) : Calls Try.prog 29 #[] w fun e w' => e = .returned (.pointer (some ⟨w.heap.size, 0, none⟩)) ∧ Upd w w.heap.size 91 (mains false (-1) 1 0) w' := by
  go_enter Try.func29, Try.ntmps29
  go_wp2
  go_ret
  exact ⟨rfl, Blk.new _ _ _, only_alloc (World.grownBy.refl w _) _⟩

set_option maxHeartbeats 400000 in
theorem use_ok (g : Nat) (fuse lives uses : Int) (w : World) (h : Blk w g 91 (mains false fuse lives uses)) (hf : fuse ≠ 0) (h0 : -1 ≤ fuse) (h1 : fuse ≤ 9223372036854775807) (h2 : 0 ≤ uses) (h3 : uses ≤ 1000000000000000000) :
    Calls Try.prog 31 #[.pointer (some ⟨g, 0, none⟩)] w fun e w' => e = .returned (.int .i64 0) ∧ Upd w g 91 (mains false (max (fuse - 1) (-1)) lives (uses + 1)) w' := by
  obtain ⟨c0, c1, c2, c3, f0, f1, f2, f3⟩ := mains_cells h
  have hz : ((fuse : Int) == 0) = false := by simp [hf]
  have H := Lib.hid h
  clear h
  go_enter Try.func31, Try.ntmps31
  go_wp2
  all_goals
    go_ret
    refine ⟨rfl, ?_⟩
    have K := (((Upd.refl H.out).set 0 (.bool false)).set 1 (.int .i64 (max (fuse - 1) (-1)))).set 3 (.int .i64 (uses + 1))
  · rw [show max (fuse - 1) (-1) = -1 by omega] at K ⊢; exact K
  · rw [show max (fuse - 1) (-1) = fuse - 1 by omega] at K ⊢; exact K

/-- A use of what is away, or whose fuse is out. -/
theorem use_down (g : Nat) (away : Bool) (fuse lives uses : Int) (w : World) (h : Blk w g 91 (mains away fuse lives uses)) (hf : (away || fuse == 0) = true) :
    Calls Try.prog 31 #[.pointer (some ⟨g, 0, none⟩)] w fun e w' => e = .returned (.int .i64 4) ∧ Upd w g 91 (mains true fuse lives uses) w' := by
  obtain ⟨c0, c1, c2, c3, f0, f1, f2, f3⟩ := mains_cells h
  have H := Lib.hid h
  clear h
  cases away
  · have hz : ((fuse : Int) == 0) = true := by simpa using hf
    clear hf
    go_enter Try.func31, Try.ntmps31
    go_wp2
    go_ret
    exact ⟨rfl, (Upd.refl H.out).set 0 (.bool true)⟩
  · clear hf
    go_enter Try.func31, Try.ntmps31
    go_wp2
    go_ret
    exact ⟨rfl, (Upd.refl H.out).set 0 (.bool true)⟩

theorem fuse_any (g : Nat) (away : Bool) (fuse lives uses n : Int) (w : World) (h : Blk w g 91 (mains away fuse lives uses)) :
    Calls Try.prog 30 #[.pointer (some ⟨g, 0, none⟩), .int .i64 n] w fun e w' => e = .returned (.tuple #[]) ∧ Upd w g 91 (mains away (max n (-1)) lives uses) w' := by
  obtain ⟨c0, c1, c2, c3, f0, f1, f2, f3⟩ := mains_cells h
  have H := Lib.hid h
  clear h
  by_cases hn : n < -1
  · go_enter Try.func30, Try.ntmps30
    go_wp2
    go_end0
    refine ⟨rfl, ?_⟩
    rw [show max n (-1) = -1 by omega]
    exact (Upd.refl H.out).set 1 (.int .i64 (-1))
  · go_enter Try.func30, Try.ntmps30
    go_wp2
    go_end0
    refine ⟨rfl, ?_⟩
    rw [show max n (-1) = n by omega]
    exact (Upd.refl H.out).set 1 (.int .i64 n)

theorem cut_any (g : Nat) (away : Bool) (fuse lives uses : Int) (w : World) (h : Blk w g 91 (mains away fuse lives uses)) :
    Calls Try.prog 38 #[.pointer (some ⟨g, 0, none⟩)] w fun e w' => e = .returned (.tuple #[]) ∧ Upd w g 91 (mains true fuse lives uses) w' := by
  obtain ⟨c0, c1, c2, c3, f0, f1, f2, f3⟩ := mains_cells h
  have H := Lib.hid h
  clear h
  go_enter Try.func38, Try.ntmps38
  go_wp2
  go_end0
  exact ⟨rfl, (Upd.refl H.out).set 0 (.bool true)⟩

theorem come_away (g : Nat) (fuse lives uses : Int) (w : World) (h : Blk w g 91 (mains true fuse lives uses)) (h0 : 0 ≤ lives) (h1 : lives ≤ 1000000000000000000) :
    Calls Try.prog 34 #[.pointer (some ⟨g, 0, none⟩)] w fun e w' => e = .returned (.tuple #[]) ∧ Upd w g 91 (mains false (-1) (lives + 1) uses) w' := by
  obtain ⟨c0, c1, c2, c3, f0, f1, f2, f3⟩ := mains_cells h
  have H := Lib.hid h
  clear h
  go_enter Try.func34, Try.ntmps34
  go_wp2
  go_end0
  exact ⟨rfl, (((Upd.refl H.out).set 0 (.bool false)).set 1 (.int .i64 (-1))).set 2 (.int .i64 (lives + 1))⟩

theorem come_there (g : Nat) (fuse lives uses : Int) (w : World) (h : Blk w g 91 (mains false fuse lives uses)) :
    Calls Try.prog 34 #[.pointer (some ⟨g, 0, none⟩)] w fun e w' => e = .returned (.tuple #[]) ∧ w = w' := by
  obtain ⟨c0, c1, c2, c3, f0, f1, f2, f3⟩ := mains_cells h
  clear h
  go_enter Try.func34, Try.ntmps34
  go_wp2
  go_end0
  exact ⟨rfl, rfl⟩

theorem on_any (g : Nat) (away : Bool) (fuse lives uses : Int) (w : World) (h : Blk w g 91 (mains away fuse lives uses)) :
    Calls Try.prog 32 #[.pointer (some ⟨g, 0, none⟩)] w fun e w' => e = .returned (.bool !away) ∧ w = w' := by
  obtain ⟨c0, c1, c2, c3, f0, f1, f2, f3⟩ := mains_cells h
  clear h
  go_enter Try.func32, Try.ntmps32
  go_wp2
  go_ret
  exact ⟨rfl, rfl⟩

theorem lives_any (g : Nat) (away : Bool) (fuse lives uses : Int) (w : World) (h : Blk w g 91 (mains away fuse lives uses)) :
    Calls Try.prog 35 #[.pointer (some ⟨g, 0, none⟩)] w fun e w' => e = .returned (.int .i64 lives) ∧ w = w' := by
  obtain ⟨c0, c1, c2, c3, f0, f1, f2, f3⟩ := mains_cells h
  clear h
  go_enter Try.func35, Try.ntmps35
  go_wp2
  go_ret
  exact ⟨rfl, rfl⟩

theorem uses_any (g : Nat) (away : Bool) (fuse lives uses : Int) (w : World) (h : Blk w g 91 (mains away fuse lives uses)) :
    Calls Try.prog 33 #[.pointer (some ⟨g, 0, none⟩)] w fun e w' => e = .returned (.int .i64 uses) ∧ w = w' := by
  obtain ⟨c0, c1, c2, c3, f0, f1, f2, f3⟩ := mains_cells h
  clear h
  go_enter Try.func33, Try.ntmps33
  go_wp2
  go_ret
  exact ⟨rfl, rfl⟩

set_option maxHeartbeats 1000000 in
theorem awake3 (w : World) : Calls Try.prog 28 #[] w fun e w' => e = .returned (.bool true) ∧ Below w.heap.size w w' := by
  go_enter Try.func28, Try.ntmps28
  go_wp2
  go_end0
  go_wp2
  go_ret
  exact ⟨rfl, by repeat (first | exact Below.refl _ _ | apply Below.drew | refine Below.alloc ?_ (by simp) _)⟩
end Go.Proofs.Ytkeloklncjfddaa
