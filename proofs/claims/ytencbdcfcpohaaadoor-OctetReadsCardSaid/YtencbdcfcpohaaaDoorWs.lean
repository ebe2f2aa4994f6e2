/- A writer of the call's own: what lies below it has not turned. -/
import Derived.Test.YtencbdcfcpohaaaDoorCastle
namespace Go.Proofs.YtencbdcfcpohaaaDoor
set_option linter.unusedVariables false
set_option linter.unusedSimpArgs false
open Go.RowKit

/-- Block b is a writer that holds L; below b the world is as A. -/
def Ws (A : World) (b : Nat) (L : List UInt8) (w : World) : Prop := ∃ g, Wr w b g L ∧ (∀ k, g = some k → b ≤ k) ∧ Below b A w ∧ b ≤ w.heap.size
section
variable {A w w' : World} {b : Nat} {L : List UInt8}
theorem Ws.new_ {b : Nat} (hb : b = A.heap.size) : Ws A b [] (A.alloc (.cells #[.pointer none, .slice none 0 0] 30)) :=
  ⟨none, Wr.new_ hb, (fun k e => by cases e), by subst hb; exact Below.alloc (Below.refl _ _) (Nat.le_refl _) _, by subst hb; simp⟩
theorem Ws.blk (h : Ws A b L w) {k : Nat} {t : TypeId} {cs : Array Value} (hk : Blk A k t cs) (hb : k < b) : Blk w k t cs := by
  obtain ⟨g, _, _, hA, _⟩ := h
  exact hk.below hA hb
theorem Ws.below_ (h : Ws A b L w) : Below b A w := by
  obtain ⟨g, _, _, hA, _⟩ := h
  exact hA
theorem Ws.size (h : Ws A b L w) : b < w.heap.size := by
  obtain ⟨g, hW, _, _, hs⟩ := h
  exact hW.lt
theorem Ws.drew (h : Ws A b L w) : Ws A b L w.drew := by
  obtain ⟨g, hW, hg, hA, hs⟩ := h
  exact ⟨g, hW.drew, hg, hA.drew, hs⟩
theorem Ws.alloc (h : Ws A b L w) (o : Obj) : Ws A b L (w.alloc o) := by
  obtain ⟨g, hW, hg, hA, hs⟩ := h
  exact ⟨g, hW.alloc o, hg, hA.alloc hs o, by simp; omega⟩
theorem Ws.call (h : Ws A b L w) (hb : Below w.heap.size w w') : Ws A b L w' := by
  obtain ⟨g, hW, hg, hA, hs⟩ := h
  exact ⟨g, hW.below hb, hg, hA.trans (hb.mono hs), Nat.le_trans hs hb.size⟩
theorem Ws.wrote (h : Ws A b L w) {L' : List UInt8} (hh : ∀ g, Wr w b g L → (∃ g', Wr w' b g' L' ∧ Wrote w b g g' w')) : Ws A b L' w' := by
  obtain ⟨g, hW, hg, hA, hs⟩ := h
  obtain ⟨g', hW', hK⟩ := hh g hW
  exact ⟨g', hW', hK.own_from hs hg, hK.below hA hs (Nat.le_refl _) hg, Nat.le_trans hs hK.size⟩
end

theorem ws_put {A : World} {b : Nat} {L : List UInt8} {w : World} (h : Ws A b L w) (n : Nat) (size : Int) (k : Nat) (hk : clampSize size = k) (hn : n < 18446744073709551616) (hlen : L.length + 8 ≤ 140737488355328) :
    Calls Tryd.prog 11 #[.pointer (some ⟨b, 0, none⟩), .int .u64 n, .int .i64 size] w fun e w' => e = .returned (.tuple #[]) ∧ Ws A b (L ++ le n k) w' := by
  subst hk
  obtain ⟨g, hW, hg, hA, hs⟩ := h
  refine (put_any b g L n size w hn hW hlen).mono ?_
  rintro e w' ⟨rfl, g', hW', hK⟩
  exact ⟨rfl, g', hW', hK.own_from hs hg, hK.below hA hs (Nat.le_refl _) hg, Nat.le_trans hs hK.size⟩
theorem ws_text {A : World} {b : Nat} {L : List UInt8} {w : World} (h : Ws A b L w) (s : ByteArray) (hlen : L.length + s.size ≤ 140737488355328) :
    Calls Tryd.prog 13 #[.pointer (some ⟨b, 0, none⟩), .string s] w fun e w' => e = .returned (.tuple #[]) ∧ Ws A b (L ++ s.data.toList) w' := by
  obtain ⟨g, hW, hg, hA, hs⟩ := h
  refine (text_any b g L s w hW hlen).mono ?_
  rintro e w' ⟨rfl, g', hW', hK⟩
  exact ⟨rfl, g', hW', hK.own_from hs hg, hK.below hA hs (Nat.le_refl _) hg, Nat.le_trans hs hK.size⟩
theorem ws_string {A : World} {b : Nat} {L : List UInt8} {w : World} (h : Ws A b L w) (h0 : L ≠ []) :
    Calls Tryd.prog 15 #[.pointer (some ⟨b, 0, none⟩)] w fun e w' => e = .returned (.string ⟨L.toArray⟩) ∧ Ws A b L w' := by
  obtain ⟨g, hW, hg, hA, hs⟩ := h
  refine (ostring_some b g L w hW h0).mono ?_
  rintro e w' ⟨rfl, hW', hK⟩
  exact ⟨rfl, g, hW', hK.own_from hs hg, hK.below hA hs (Nat.le_refl _) hg, Nat.le_trans hs hK.size⟩
end Go.Proofs.YtencbdcfcpohaaaDoor
