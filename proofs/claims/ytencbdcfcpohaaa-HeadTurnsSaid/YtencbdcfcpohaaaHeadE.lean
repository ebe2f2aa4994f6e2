/- What a reading of a sector gives, by its bytes; both readings are that. -/
import Derived.Test.YtencbdcfcpohaaaHeadRefC
import Derived.Test.YtencbdcfcpohaaaHeadD
import Derived.Lib.Strings
namespace Go.Proofs.Ytencbdcfcpohaaa
set_option linter.unusedVariables false
set_option linter.unusedSimpArgs false
open Go.RowKit

def hG (L : List UInt8) : Nat := numL ((L.drop 6).take 4)
def hR (L : List UInt8) : Nat := numL ((L.drop 10).take 2)
def hA (L : List UInt8) : Nat := numL ((L.drop 2).take 2)
def hB (L : List UInt8) : Nat := numL ((L.drop 4).take 2)
def hC (L : List UInt8) : Nat := (L.getD 1 0).toNat
def headOf (L : List UInt8) : List UInt8 := headL (hG L) (hR L) (hA L) (hB L) (hC L)
abbrev HeadIs (L : List UInt8) : Prop := L.length = 16 ∧ HeadOk (hG L) (hR L) (hA L) (hB L) (hC L) ∧ sealL (headOf L) = L
def readL (L : List UInt8) : HeadR := if HeadIs L then ⟨true, hG L, hR L, hA L, hB L, hC L⟩ else .none

def RReads (s : ByteArray) (x : HeadR) : Prop := ∀ w : World, Calls Try.prog 12 #[.string s] w fun e w' => e = .returned (.tuple #[x.v, .bool x.ok]) ∧ Below w.heap.size w w'

theorem rreads_any (s : ByteArray) : RReads s (readL s.data.toList) := by
  intro w
  have hl : s.data.toList.length = s.size := by simp
  by_cases hs : s.size = 16
  · refine rhread_16 s w hs (hG s.data.toList) (hR s.data.toList) (hA s.data.toList) (hB s.data.toList) (hC s.data.toList) ?_ ?_ ?_ ?_ rfl _ ?_
    · rw [Lib.extract_data]; rfl
    · rw [Lib.extract_data]; rfl
    · rw [Lib.extract_data]; rfl
    · rw [Lib.extract_data]; rfl
    · unfold readL HeadIs
      by_cases h : HeadOk (hG s.data.toList) (hR s.data.toList) (hA s.data.toList) (hB s.data.toList) (hC s.data.toList) ∧ sealL (headOf s.data.toList) = s.data.toList
      · rw [if_pos ⟨hl.trans hs, h⟩, if_pos (by exact h)]
      · rw [if_neg (fun e => h e.2), if_neg (by exact h)]; rfl
  · have : readL s.data.toList = .none := by
      unfold readL; rw [if_neg (fun e => hs (hl.symm.trans e.1))]
    rw [this]
    exact rhread_short s w hs

theorem getN_whole {st : List UInt8 × Bool} {k n : Nat} {l : List UInt8} (h : getN st k = (n, (l, false))) : st.2 = false ∧ st.1.length = k + l.length := by
  unfold getN at h
  split at h
  · rename_i hk
    simp only [Prod.mk.injEq] at h
    obtain ⟨_, h1, h2⟩ := h
    refine ⟨h2, ?_⟩
    rw [← h1, List.length_drop]
    omega
  · simp at h
theorem getN_fit (l : List UInt8) (k : Nat) (h : k ≤ l.length) : getN (l, false) k = (numL (l.take k), (l.drop k, false)) := by
  unfold getN; rw [if_pos h]
theorem take_at (l : List UInt8) (k : Nat) (h : k < l.length) : (l.drop k).take 1 = [l.getD k 0] := by
  rw [List.drop_eq_getElem_cons h, List.take_succ_cons, List.take_zero]
  simp [List.getD, List.getElem?_eq_getElem h]
theorem numL_one (x : UInt8) : numL [x] = x.toNat := by simp [numL]
theorem le_take (l : List UInt8) (k n : Nat) (h : k + n ≤ l.length) : le (numL ((l.drop k).take n)) n = (l.drop k).take n := by
  have := le_numL ((l.drop k).take n)
  rwa [show ((l.drop k).take n).length = n by rw [List.length_take, List.length_drop]; omega] at this

/-- Twelve bytes are a head's parts. -/
theorem twelve (T : List UInt8) (h : T.length = 12) : T = le (numL (T.take 1)) 1 ++ le (T.getD 1 0).toNat 1 ++ le (numL ((T.drop 2).take 2)) 2 ++ le (numL ((T.drop 4).take 2)) 2 ++ le (numL ((T.drop 6).take 4)) 4 ++ le (numL ((T.drop 10).take 2)) 2 := by
  rw [le_take T 2 2 (by omega), le_take T 4 2 (by omega), le_take T 6 4 (by omega), le_take T 10 2 (by omega)]
  have h0 := le_take T 0 1 (by omega)
  rw [List.drop_zero] at h0
  rw [h0]
  match T, h with
  | [a, b, c, d, e, f, g, i, j, k, l, m], _ =>
    have : le b.toNat 1 = [b] := by
      have := le_numL [b]
      rwa [numL_one] at this
    simp [this]

theorem sealL_cancel {a b : List UInt8} (h : sealL a = sealL b) : a = b := by
  have hl := congrArg List.length h
  rw [sealL_length, sealL_length] at hl
  unfold sealL at h
  exact (List.append_inj h (by omega)).1
theorem sealL_take (a : List UInt8) : (sealL a).take a.length = a := by unfold sealL; rw [List.take_left']; rfl

theorem hreads_any (s : ByteArray) (hs : s.size ≤ 1000000) : Reads s (readL s.data.toList) := by
  intro w
  have hl : s.data.toList.length = s.size := by simp
  generalize hL : s.data.toList = L at hl
  by_cases h4 : s.size < 4
  · have : readL L = .none := by unfold readL; rw [if_neg (fun e => by have := e.1; omega)]
    rw [this]
    exact hread_closed s w (fun W => (open_short s W h4))
  · by_cases ho : sealL (s.data.toList.take (s.size - 4)) = s.data.toList
    · have hop := fun W => open_yes s W (by omega) (by omega) ho
      rw [hL] at ho hop
      obtain ⟨T, hT⟩ : ∃ T, T = L.take (s.size - 4) := ⟨_, rfl⟩
      have hTl : T.length = s.size - 4 := by rw [hT, List.length_take]; omega
      rw [← hT] at ho hop
      rcases e1 : getN (T, false) 1 with ⟨kd, s1⟩
      rcases e2 : getN s1 1 with ⟨c, s2⟩
      rcases e3 : getN s2 2 with ⟨a, s3⟩
      rcases e4 : getN s3 2 with ⟨b, s4⟩
      rcases e5 : getN s4 4 with ⟨g, s5⟩
      rcases e6 : getN s5 2 with ⟨r, st⟩
      refine hread_open s ⟨T.toArray⟩ w hop kd c a b g r s1 s2 s3 s4 s5 st e1 e2 e3 e4 e5 e6 (by show T.toArray.size ≤ _; rw [List.size_toArray]; omega) _ ?_
      by_cases h12 : T.length = 12
      · rw [getN_fit T 1 (by omega)] at e1
        obtain ⟨rfl, rfl⟩ := Prod.mk.inj e1
        rw [getN_fit _ 1 (by rw [List.length_drop]; omega)] at e2
        obtain ⟨hc, rfl⟩ := Prod.mk.inj e2
        rw [List.drop_drop] at e3
        rw [getN_fit _ 2 (by rw [List.length_drop]; omega)] at e3
        obtain ⟨ha, rfl⟩ := Prod.mk.inj e3
        rw [List.drop_drop] at e4
        rw [getN_fit _ 2 (by rw [List.length_drop]; omega)] at e4
        obtain ⟨hb, rfl⟩ := Prod.mk.inj e4
        rw [List.drop_drop] at e5
        rw [getN_fit _ 4 (by rw [List.length_drop]; omega)] at e5
        obtain ⟨hg, rfl⟩ := Prod.mk.inj e5
        rw [List.drop_drop] at e6
        rw [getN_fit _ 2 (by rw [List.length_drop]; omega)] at e6
        obtain ⟨hr, rfl⟩ := Prod.mk.inj e6
        simp only [Nat.reduceAdd] at ha hb hg hr hc
        have hdrop : ∀ k n, k + n ≤ 12 → (L.drop k).take n = (T.drop k).take n := by
          intro k n hkn
          rw [← ho]
          unfold sealL
          rw [List.drop_append_of_le_length (by omega), List.take_append_of_le_length (by rw [List.length_drop]; omega)]
        have c1 : hC L = c := by
          have h1 := hdrop 1 1 (by omega)
          rw [← hc, ← h1]
          unfold hC
          rw [take_at L 1 (by omega), numL_one]
        have g1 : hG L = g := by unfold hG; rw [hdrop 6 4 (by omega)]; exact hg
        have r1 : hR L = r := by unfold hR; rw [hdrop 10 2 (by omega)]; exact hr
        have a1 : hA L = a := by unfold hA; rw [hdrop 2 2 (by omega)]; exact ha
        have b1 : hB L = b := by unfold hB; rw [hdrop 4 2 (by omega)]; exact hb
        have hst : (List.drop 2 (List.drop (1 + 1 + 2 + 2 + 4) T), false) = (([] : List UInt8), false) := by rw [List.drop_drop, List.drop_of_length_le (by omega)]
        have hT12 := twelve T h12
        have hcT : (T.getD 1 0).toNat = c := by
          rw [← hc, take_at T 1 (by omega), numL_one]
        rw [hcT, hg, hr, ha, hb] at hT12
        have hkd : headL g r a b c = T ↔ numL (T.take 1) = 84 := by
          constructor
          · intro h
            rw [hT12]
            have : headL g r a b c = le 84 1 ++ (le c 1 ++ le a 2 ++ le b 2 ++ le g 4 ++ le r 2) := by simp [headL]
            rw [hT12] at h
            rw [this] at h
            have h84 := (List.append_inj (show le 84 1 ++ (le c 1 ++ le a 2 ++ le b 2 ++ le g 4 ++ le r 2) = le (numL (T.take 1)) 1 ++ (le c 1 ++ le a 2 ++ le b 2 ++ le g 4 ++ le r 2) by rw [h]; simp [List.append_assoc]) (by simp [le_length])).1
            have h5 := congrArg numL h84
            rw [numL_le 84 1 (by decide)] at h5
            rw [← hT12]
            have hlt := numL_lt (T.take 1)
            rw [List.length_take, Nat.min_eq_left (by omega)] at hlt
            rw [numL_le _ 1 hlt] at h5
            exact h5.symm
          · intro h
            rw [h] at hT12
            rw [hT12]
            simp [headL, List.append_assoc]
        unfold readL HeadIs headOf
        rw [g1, r1, a1, b1, c1]
        by_cases hall : numL (T.take 1) = 84 ∧ HeadOk g r a b c
        · rw [if_pos ⟨by omega, hall.2, by rw [hkd.2 hall.1]; exact ho⟩, if_pos ⟨hall.1, hst, hall.2⟩]
          rfl
        · rw [if_neg (fun e => hall ⟨hkd.1 (sealL_cancel (e.2.2.trans ho.symm)), e.2.1⟩), if_neg (fun e => hall ⟨e.1, e.2.2⟩)]
          rfl
      · have hn : readL L = .none := by unfold readL; rw [if_neg (fun e => h12 (by have := e.1; omega))]
        have hst : st ≠ ([], false) := by
          intro h
          subst h
          obtain ⟨f5, l5⟩ := getN_whole e6
          obtain ⟨x5, y5⟩ := s5
          simp only at f5 l5; subst f5
          obtain ⟨f4, l4⟩ := getN_whole e5
          obtain ⟨x4, y4⟩ := s4
          simp only at f4 l4; subst f4
          obtain ⟨f3, l3⟩ := getN_whole e4
          obtain ⟨x3, y3⟩ := s3
          simp only at f3 l3; subst f3
          obtain ⟨f2, l2⟩ := getN_whole e3
          obtain ⟨x2, y2⟩ := s2
          simp only at f2 l2; subst f2
          obtain ⟨f1, l1⟩ := getN_whole e2
          obtain ⟨x1, y1⟩ := s1
          simp only at f1 l1; subst f1
          obtain ⟨_, l0⟩ := getN_whole e1
          simp only [List.length_nil] at *
          omega
        rw [hn, if_neg (fun e => hst e.2.1)]
        rfl
    · have hn : readL L = .none := by
        unfold readL
        rw [if_neg]
        intro e
        apply ho
        have h16 := e.1
        have h12 : (headOf L).length = 12 := headL_length _ _ _ _ _
        rw [hL, show s.size - 4 = (headOf L).length by omega]
        have := e.2.2
        have h2 := sealL_take (headOf L)
        rw [this] at h2
        rw [h2]
        exact this
      rw [hn]
      exact hread_closed s w (fun W => open_no s W (by omega) (by omega) ho)
end Go.Proofs.Ytencbdcfcpohaaa
