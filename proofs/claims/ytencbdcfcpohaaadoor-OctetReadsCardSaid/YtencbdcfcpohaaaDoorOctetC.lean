/- The walks of octet: Zeros, Take of whatever number, receivers that are nil. -/
import Derived.Test.YtencbdcfcpohaaaDoorOctetB
import Derived.Test.YtencbdcfcpohaaaDoorRs
namespace Go.Proofs.YtencbdcfcpohaaaDoor
set_option linter.unusedVariables false
set_option linter.unusedSimpArgs false
open Go.RowKit

theorem trimB_nil (l : List UInt8) : Lib.trimB l 0 = [] ↔ ∀ x ∈ l, x = 0 := by
  have hd : ∀ m : List UInt8, m.dropWhile (· == 0) = [] ↔ ∀ x ∈ m, x = 0 := by
    intro m
    induction m with
    | nil => simp
    | cons x m ih =>
      by_cases hx : x = 0
      · subst hx; simp [ih]
      · simp [List.dropWhile_cons, hx]
  unfold Lib.trimB Lib.trimLeftB Lib.trimRightB
  rw [hd]
  have hm : ∀ m : List UInt8, (∀ x ∈ m.dropWhile (· == 0), x = 0) ↔ ∀ x ∈ m, x = 0 := by
    intro m
    induction m with
    | nil => simp
    | cons x m ih =>
      by_cases hx : x = 0
      · subst hx; simpa using ih
      · simp [List.dropWhile_cons, hx]
  have := hm l.reverse
  simpa using this

/-- All is zeros; nothing is left. -/
theorem rs_zeros {A : World} {b : Nat} {st : List UInt8 × Bool} {w : World} (h : Rs A b st w) (hs : st.1.length ≤ 1000000) :
    Calls Tryd.prog 23 #[.pointer (some ⟨b, 0, none⟩)] w fun e w' => e = .returned (.bool (st.1.all (· == 0))) ∧ Rs A b ([], st.2) w' := by
  obtain ⟨l, sh⟩ := st
  obtain ⟨hb, hA⟩ := h
  have c0 : w.cell? ⟨b, 0, none⟩ = some (.string ⟨l.toArray⟩) := hb.cell 0
  have f0 : w.frozen? ⟨b, 0, none⟩ = false := hb.frozen 0
  have hT : ∀ W : World, Calls Tryd.prog 41 #[.string ⟨l.toArray⟩, .string ⟨#[0]⟩] W fun e w' => e = .returned (.string ⟨(Lib.trimB l 0).toArray⟩) ∧ (w' = W ∨ w' = W.drew) :=
    fun W => Tryd.strings_Trim_one ⟨l.toArray⟩ 0 (by decide) W (by show l.toArray.size ≤ _; simp at hs ⊢; omega)
  have H2 : Rs A b ([], sh) (w.setCell ⟨b, 0, none⟩ (.string ⟨#[]⟩)) := ⟨by have := hb.set_ 0 (.string ⟨#[]⟩); simpa [rdr] using this, hA.setCell (Nat.le_refl _) _⟩
  have HH := Lib.hid H2
  have HT := Lib.hid hT
  have hz : l.all (· == 0) = decide (Lib.trimB l 0 = []) := by
    rw [Bool.eq_iff_iff, decide_eq_true_iff, trimB_nil, List.all_eq_true]
    simp
  simp only [hz]
  clear hz hb hA hT H2
  generalize Lib.trimB l 0 = Z at HT ⊢
  go_enter Tryd.func23, Tryd.ntmps23
  go_wp2_with fail
  refine (HT.out _).mono ?_
  rintro e w2 ⟨rfl, hw⟩
  have hR : Rs A b ([], sh) w2 := by
    rcases hw with rfl | rfl
    · exact HH.out
    · exact ⟨HH.out.blk, HH.out.below.drew⟩
  have HR := Lib.hid hR
  clear hw hR
  go_wp2_with fail
  go_ret
  exact ⟨ret_bool (by cases Z <;> simp), HR.out⟩

/-- What a reader has left behind so many bytes, and those. -/
def takeN (st : List UInt8 × Bool) (n : Int) : List UInt8 × (List UInt8 × Bool) :=
  if n < 0 then ([], st) else if n.toNat ≤ st.1.length then (st.1.take n.toNat, (st.1.drop n.toNat, st.2)) else ([], ([], true))
theorem rs_take {A : World} {b : Nat} {st : List UInt8 × Bool} {w : World} (h : Rs A b st w) (n : Int) (hn : n ≤ 9223372036854775807) (hs : st.1.length ≤ 1000000) :
    Calls Tryd.prog 22 #[.pointer (some ⟨b, 0, none⟩), .int .i64 n] w fun e w' => e = .returned (.string ⟨(takeN st n).1.toArray⟩) ∧ Rs A b (takeN st n).2 w' ∧ (∀ x t cs, x ≠ b → Blk w x t cs → Blk w' x t cs) ∧ w.heap.size ≤ w'.heap.size := by
  have hsz : (⟨st.1.toArray⟩ : ByteArray).size = st.1.length := by show st.1.toArray.size = _; simp
  unfold takeN
  by_cases h0 : n < 0
  · rw [if_pos h0]
    refine (take_neg b ⟨#[]⟩ false n w h0).mono ?_
    rintro e w' ⟨rfl, rfl⟩
    exact ⟨rfl, h, fun _ _ _ _ hx => hx, Nat.le_refl _⟩
  · rw [if_neg h0]
    obtain ⟨k, rfl⟩ : ∃ k : Nat, n = k := ⟨n.toNat, by omega⟩
    simp only [Int.toNat_natCast]
    have fin : ∀ {s : ByteArray} {l' : List UInt8} {sh : Bool} {w' : World}, s = ⟨l'.toArray⟩ → Upd w b 86 (rdr s sh) w' → Rs A b (l', sh) w' ∧ (∀ x t cs, x ≠ b → Blk w x t cs → Blk w' x t cs) ∧ w.heap.size ≤ w'.heap.size := by
      intro s l' sh w' hs' hU
      subst hs'
      exact ⟨⟨hU.blk, h.below.grown hU.grown (Nat.le_of_lt h.size) (fun k e => by injection e with e; omega)⟩, fun x t cs hx hl => hl.grown hU.grown (by simpa using hx), hU.grown.size⟩
    by_cases hle : k ≤ st.1.length
    · rw [if_pos hle]
      refine (take_yes b ⟨st.1.toArray⟩ st.2 k w h.blk (by omega) (by omega)).mono ?_
      rintro e w' ⟨rfl, hU⟩
      have e : (⟨st.1.toArray⟩ : ByteArray).extract k (⟨st.1.toArray⟩ : ByteArray).size = ⟨(st.1.drop k).toArray⟩ := by
        apply str_ext
        rw [Lib.extract_data, hsz]
        exact List.take_of_length_le (by simp)
      exact ⟨by rw [cut_eq _ k (by omega)], fin e hU⟩
    · rw [if_neg hle]
      refine (take_short b ⟨st.1.toArray⟩ st.2 k w h.blk (by omega) (by omega)).mono ?_
      rintro e w' ⟨rfl, hU⟩
      exact ⟨rfl, fin rfl hU⟩

/-- The end: nothing is left, and there were enough. -/
def endE (st : List UInt8 × Bool) : Int := if st = ([], false) then 0 else 3
theorem rs_end {A : World} {b : Nat} {st : List UInt8 × Bool} {w : World} (h : Rs A b st w) :
    Calls Tryd.prog 24 #[.pointer (some ⟨b, 0, none⟩)] w fun e w' => e = .returned (.int .i64 (endE st)) ∧ w = w' := by
  unfold endE
  by_cases h0 : st = ([], false)
  · rw [if_pos h0]; subst h0; exact rs_end_yes h
  · rw [if_neg h0]; exact rs_end_no h h0
end Go.Proofs.YtencbdcfcpohaaaDoor
