/- Two writers of one's own. -/
import Derived.Test.YtencbdcfcpohaaaDoorOctetD
namespace Go.Proofs.YtencbdcfcpohaaaDoor
set_option linter.unusedVariables false
set_option linter.unusedSimpArgs false
open Go.RowKit

theorem ostring_any (b : Nat) (g : Option Nat) (l : List UInt8) (w : World) (h : Wr w b g l) :
    Calls Tryd.prog 15 #[.pointer (some ⟨b, 0, none⟩)] w fun e w' => e = .returned (.string ⟨l.toArray⟩) ∧ Wr w' b g l ∧ Wrote w b g g w' := by
  go_enter Tryd.func15, Tryd.ntmps15
  go_wp2_with fail
  refine (bstring_any b g l _ h).mono ?_
  rintro e w' ⟨rfl, hW', hK⟩
  have H := Lib.hid hW'
  have H2 := Lib.hid hK
  clear hW' hK h
  go_wp2_with fail
  go_ret
  exact ⟨rfl, H.out, H2.out⟩
theorem olen_any (b : Nat) (g : Option Nat) (l : List UInt8) (w : World) (h : Wr w b g l) :
    Calls Tryd.prog 16 #[.pointer (some ⟨b, 0, none⟩)] w fun e w' => e = .returned (.int .i64 l.length) ∧ w = w' := by
  go_enter Tryd.func16, Tryd.ntmps16
  go_wp2_with fail
  refine (blen_any b g l _ h).mono ?_
  rintro e w1 ⟨rfl, rfl⟩
  go_wp2_with fail
  go_ret
  exact ⟨rfl, rfl⟩

/-- Two writers from B on; below B the world is as A. -/
def W2 (A : World) (B b b' : Nat) (L L' : List UInt8) (w : World) : Prop :=
  ∃ g g', Wr w b g L ∧ Wr w b' g' L' ∧ (g ≠ g' ∨ g = none) ∧ (∀ k, g = some k → B ≤ k) ∧ (∀ k, g' = some k → B ≤ k) ∧ g ≠ some b' ∧ g' ≠ some b ∧ Below B A w ∧ B ≤ w.heap.size ∧ B ≤ b ∧ B ≤ b' ∧ b ≠ b'
section
variable {A w w' : World} {B b b' : Nat} {L L' : List UInt8}
theorem W2.symm (h : W2 A B b b' L L' w) : W2 A B b' b L' L w := by
  obtain ⟨g, g', h1, h2, h3, h4, h5, h6, h7, h8, h9, h10, h11, h12⟩ := h
  refine ⟨g', g, h2, h1, ?_, h5, h4, h7, h6, h8, h9, h11, h10, fun e => h12 e.symm⟩
  rcases h3 with h3 | h3
  · exact .inl fun e => h3 e.symm
  · by_cases e : g' = none
    · exact .inr e
    · exact .inl (by rw [h3]; exact e)
theorem W2.below (h : W2 A B b b' L L' w) : Below B A w := by
  obtain ⟨g, g', h1, h2, h3, h4, h5, h6, h7, h8, h9, h10, h11, h12⟩ := h
  exact h8
theorem W2.call (h : W2 A B b b' L L' w) (hb : Below w.heap.size w w') : W2 A B b b' L L' w' := by
  obtain ⟨g, g', h1, h2, h3, h4, h5, h6, h7, h8, h9, h10, h11, h12⟩ := h
  exact ⟨g, g', h1.below hb, h2.below hb, h3, h4, h5, h6, h7, h8.trans (hb.mono h9), Nat.le_trans h9 hb.size, h10, h11, h12⟩
theorem W2.drew (h : W2 A B b b' L L' w) : W2 A B b b' L L' w.drew := h.call (Ext.drew w)
theorem W2.first (h : W2 A B b b' L L' w) {f : FuncId} {args : Array Value} {v : Value} {L1 : List UInt8}
    (hc : ∀ g, Wr w b g L → Calls Tryd.prog f args w fun e w' => e = .returned v ∧ ∃ g1, Wr w' b g1 L1 ∧ Wrote w b g g1 w') : Calls Tryd.prog f args w fun e w' => e = .returned v ∧ W2 A B b b' L1 L' w' := by
  obtain ⟨g, g', h1, h2, h3, h4, h5, h6, h7, h8, h9, h10, h11, h12⟩ := h
  refine (hc g h1).mono ?_
  rintro e w' ⟨rfl, g1, hW, hK⟩
  have hb' := h2.lt
  refine ⟨rfl, g1, g', hW, h2.other hK (fun e => h12 e.symm) h6 h7 ?_, ?_, hK.own_from h9 h4, h5, ?_, h7, hK.below h8 h9 h10 h4, Nat.le_trans h9 hK.size, h10, h11, h12⟩
  · rcases h3 with h3 | h3
    · exact .inl fun e => h3 e.symm
    · by_cases e : g' = none
      · exact .inr e
      · exact .inl (by rw [h3]; exact e)
  · rcases hK.own with rfl | ⟨k, rfl, hk⟩
    · exact h3
    · refine .inl fun e => ?_
      have := h2.own_lt k e.symm
      omega
  · rcases hK.own with rfl | ⟨k, rfl, hk⟩
    · exact h6
    · intro e; injection e with e; omega
theorem W2.second (h : W2 A B b b' L L' w) {f : FuncId} {args : Array Value} {v : Value} {L1 : List UInt8}
    (hc : ∀ g, Wr w b' g L' → Calls Tryd.prog f args w fun e w' => e = .returned v ∧ ∃ g1, Wr w' b' g1 L1 ∧ Wrote w b' g g1 w') : Calls Tryd.prog f args w fun e w' => e = .returned v ∧ W2 A B b b' L L1 w' :=
  (h.symm.first hc).mono fun e w' h => ⟨h.1, h.2.symm⟩
theorem W2.put1 (h : W2 A B b b' L L' w) (n : Nat) (size : Int) (k : Nat) (hk : clampSize size = k) (hn : n < 18446744073709551616) (hlen : L.length + 8 ≤ 140737488355328) :
    Calls Tryd.prog 11 #[.pointer (some ⟨b, 0, none⟩), .int .u64 n, .int .i64 size] w fun e w' => e = .returned (.tuple #[]) ∧ W2 A B b b' (L ++ le n k) L' w' := by
  subst hk
  exact h.first fun g hW => put_any b g L n size w hn hW hlen
theorem W2.put2 (h : W2 A B b b' L L' w) (n : Nat) (size : Int) (k : Nat) (hk : clampSize size = k) (hn : n < 18446744073709551616) (hlen : L'.length + 8 ≤ 140737488355328) :
    Calls Tryd.prog 11 #[.pointer (some ⟨b', 0, none⟩), .int .u64 n, .int .i64 size] w fun e w' => e = .returned (.tuple #[]) ∧ W2 A B b b' L (L' ++ le n k) w' := by
  subst hk
  exact h.second fun g hW => put_any b' g L' n size w hn hW hlen
theorem W2.str1 (h : W2 A B b b' L L' w) : Calls Tryd.prog 15 #[.pointer (some ⟨b, 0, none⟩)] w fun e w' => e = .returned (.string ⟨L.toArray⟩) ∧ W2 A B b b' L L' w' :=
  h.first fun g hW => (ostring_any b g L w hW).mono fun e w' h => ⟨h.1, g, h.2⟩
theorem W2.str2 (h : W2 A B b b' L L' w) : Calls Tryd.prog 15 #[.pointer (some ⟨b', 0, none⟩)] w fun e w' => e = .returned (.string ⟨L'.toArray⟩) ∧ W2 A B b b' L L' w' :=
  h.second fun g hW => (ostring_any b' g L' w hW).mono fun e w' h => ⟨h.1, g, h.2⟩
theorem W2.len1 (h : W2 A B b b' L L' w) : Calls Tryd.prog 16 #[.pointer (some ⟨b, 0, none⟩)] w fun e w' => e = .returned (.int .i64 L.length) ∧ w = w' := by
  obtain ⟨g, g', h1, _⟩ := h
  exact olen_any b g L w h1
theorem W2.len2 (h : W2 A B b b' L L' w) : Calls Tryd.prog 16 #[.pointer (some ⟨b', 0, none⟩)] w fun e w' => e = .returned (.int .i64 L'.length) ∧ w = w' := h.symm.len1
theorem W2.new_ (w : World) : W2 w w.heap.size w.heap.size (w.heap.size + 1) [] [] ((w.alloc (.cells #[.pointer none, .slice none 0 0] 30)).alloc (.cells #[.pointer none, .slice none 0 0] 30)) :=
  ⟨none, none, (Wr.new_ rfl).alloc _, Wr.new_ (by simp), .inr rfl, (fun k e => by cases e), (fun k e => by cases e), (by intro e; cases e), (by intro e; cases e), ((Below.refl _ _).alloc (Nat.le_refl _) _).alloc (by simp) _, by simp; omega, Nat.le_refl _, by omega, by omega⟩
end
end Go.Proofs.YtencbdcfcpohaaaDoor
