/- A writer and a reader beside each other; the numbers that the statements on octets fix. -/
import Derived.Test.YtencbdcfcpohaaaDoorOctetC
import Derived.RegionTactic
namespace Go.Proofs.YtencbdcfcpohaaaDoor
set_option linter.unusedVariables false
set_option linter.unusedSimpArgs false
open Go.RowKit

/-- All is zeros; nothing is left. -/
theorem u_zeros {b : Nat} {st : List UInt8 × Bool} {w : World} (h : Blk w b 86 (rdr ⟨st.1.toArray⟩ st.2)) (hs : st.1.length ≤ 1000000) :
    Calls Tryd.prog 23 #[.pointer (some ⟨b, 0, none⟩)] w fun e w' => e = .returned (.bool (st.1.all (· == 0))) ∧ Upd w b 86 (rdr ⟨#[]⟩ st.2) w' := by
  obtain ⟨l, sh⟩ := st
  have hb := h
  have c0 : w.cell? ⟨b, 0, none⟩ = some (.string ⟨l.toArray⟩) := hb.cell 0
  have f0 : w.frozen? ⟨b, 0, none⟩ = false := hb.frozen 0
  have hT : ∀ W : World, Calls Tryd.prog 41 #[.string ⟨l.toArray⟩, .string ⟨#[0]⟩] W fun e w' => e = .returned (.string ⟨(Lib.trimB l 0).toArray⟩) ∧ (w' = W ∨ w' = W.drew) :=
    fun W => Tryd.strings_Trim_one ⟨l.toArray⟩ 0 (by decide) W (by show l.toArray.size ≤ _; simp at hs ⊢; omega)
  have H2 : Upd w b 86 (rdr ⟨#[]⟩ sh) (w.setCell ⟨b, 0, none⟩ (.string ⟨#[]⟩)) := (Upd.refl hb).set 0 _
  have HH := Lib.hid H2
  have HT := Lib.hid hT
  have hz : l.all (· == 0) = decide (Lib.trimB l 0 = []) := by
    rw [Bool.eq_iff_iff, decide_eq_true_iff, trimB_nil, List.all_eq_true]
    simp
  simp only [hz]
  clear hz hb h hT H2
  generalize Lib.trimB l 0 = Z at HT ⊢
  go_enter Tryd.func23, Tryd.ntmps23
  go_wp2_with fail
  refine (HT.out _).mono ?_
  rintro e w2 ⟨rfl, hw⟩
  have hR : Upd w b 86 (rdr ⟨#[]⟩ sh) w2 := by
    rcases hw with rfl | rfl
    · exact HH.out
    · exact HH.out.drew
  have HR := Lib.hid hR
  clear hw hR
  go_wp2_with fail
  go_ret
  exact ⟨ret_bool (by cases Z <;> simp), HR.out⟩


theorem u_take {b : Nat} {st : List UInt8 × Bool} {w : World} (h : Blk w b 86 (rdr ⟨st.1.toArray⟩ st.2)) (n : Int) (hn : n ≤ 9223372036854775807) (hs : st.1.length ≤ 1000000) :
    Calls Tryd.prog 22 #[.pointer (some ⟨b, 0, none⟩), .int .i64 n] w fun e w' => e = .returned (.string ⟨(takeN st n).1.toArray⟩) ∧ Upd w b 86 (rdr ⟨(takeN st n).2.1.toArray⟩ (takeN st n).2.2) w' := by
  have hsz : (⟨st.1.toArray⟩ : ByteArray).size = st.1.length := by show st.1.toArray.size = _; simp
  unfold takeN
  by_cases h0 : n < 0
  · rw [if_pos h0]
    refine (take_neg b ⟨#[]⟩ false n w h0).mono ?_
    rintro e w' ⟨rfl, rfl⟩
    exact ⟨rfl, Upd.refl h⟩
  · rw [if_neg h0]
    obtain ⟨k, rfl⟩ : ∃ k : Nat, n = k := ⟨n.toNat, by omega⟩
    simp only [Int.toNat_natCast]
    by_cases hle : k ≤ st.1.length
    · rw [if_pos hle]
      refine (take_yes b ⟨st.1.toArray⟩ st.2 k w h (by omega) (by omega)).mono ?_
      rintro e w' ⟨rfl, hU⟩
      have e : (⟨st.1.toArray⟩ : ByteArray).extract k (⟨st.1.toArray⟩ : ByteArray).size = ⟨(st.1.drop k).toArray⟩ := by
        apply str_ext
        rw [Lib.extract_data, hsz]
        exact List.take_of_length_le (by simp)
      rw [e] at hU
      exact ⟨by rw [cut_eq _ k (by omega)], hU⟩
    · rw [if_neg hle]
      exact take_short b ⟨st.1.toArray⟩ st.2 k w h (by omega) (by omega)
theorem u_end {b : Nat} {st : List UInt8 × Bool} {w : World} (h : Blk w b 86 (rdr ⟨st.1.toArray⟩ st.2)) :
    Calls Tryd.prog 24 #[.pointer (some ⟨b, 0, none⟩)] w fun e w' => e = .returned (.int .i64 (endE st)) ∧ w = w' :=
  rs_end (A := w) ⟨h, Below.refl _ _⟩

/-- The reader's deeds leave the writer. -/
theorem Ws.reader {A w w' : World} {b b2 : Nat} {L : List UInt8} {cs cs' : Array Value} (h : Ws A b L w) (h2 : Blk w b2 86 cs) (hb : b < b2) (hU : Upd w b2 86 cs' w') : Ws A b L w' := by
  obtain ⟨g, hW, hg, hA, hs⟩ := h
  have hne : ∀ k, g = some k → k ≠ b2 := by
    intro k hk e
    subst e
    obtain ⟨v, hown, hv⟩ : ∃ v, w.ownsRowF 0 5 1 v L.length (Lib.byteCells L) ∧ v.ownBlock = g := by
      rcases hW with ⟨v, _, h3, h4⟩ | ⟨v, _, h3, h4⟩
      · exact ⟨v, h3, h4⟩
      · exact ⟨v, h3, h4⟩
    exact Lib.ownBlock_neF hown h2 (by decide) (by rw [hv, hk])
  refine ⟨g, hW.keep (hU.grown.block b hW.lt (by simp; omega)) (fun k hk => hU.grown.block k (hW.own_lt k hk) (by simpa using hne k hk)), hg, hA.grown hU.grown hs (fun k e => by injection e with e; omega), Nat.le_trans hs hU.grown.size⟩
theorem Wr.apart {w : World} {b b2 : Nat} {g : Option Nat} {L : List UInt8} {cs : Array Value} {t : TypeId} (hW : Wr w b g L) (h2 : Blk w b2 t cs) (ht : t ≠ 5) : g ≠ some b2 := by
  intro hk
  obtain ⟨v, hown, hv⟩ : ∃ v, w.ownsRowF 0 5 1 v L.length (Lib.byteCells L) ∧ v.ownBlock = g := by
    rcases hW with ⟨v, _, h3, h4⟩ | ⟨v, _, h3, h4⟩
    · exact ⟨v, h3, h4⟩
    · exact ⟨v, h3, h4⟩
  exact Lib.ownBlock_neF hown h2 ht (by rw [hv, hk])
/-- String, and another block stays. -/
theorem ws_str2 {A : World} {b b2 : Nat} {L : List UInt8} {w : World} {t : TypeId} {cs : Array Value} (h : Ws A b L w) (h2 : Blk w b2 t cs) (ht : t ≠ 5) (hb : b2 ≠ b) :
    Calls Tryd.prog 15 #[.pointer (some ⟨b, 0, none⟩)] w fun e w' => e = .returned (.string ⟨L.toArray⟩) ∧ Ws A b L w' ∧ Blk w' b2 t cs := by
  obtain ⟨g, hW, hg, hA, hs⟩ := h
  have hne := hW.apart h2 ht
  go_enter Tryd.func15, Tryd.ntmps15
  go_wp2_with fail
  refine (bstring_any b g L _ hW).mono ?_
  rintro e w' ⟨rfl, hW', hK⟩
  have H := Lib.hid (show Ws A b L w' from ⟨g, hW', hK.own_from hs hg, hK.below hA hs (Nat.le_refl _) hg, Nat.le_trans hs hK.size⟩)
  have H2 : Blk w' b2 t cs := (hK.block b2 h2.lt hb (fun e => hne e.symm)).trans h2
  have H2 := Lib.hid H2
  clear hW' hK hW hg hA hs h2 hne
  go_wp2_with fail
  go_ret
  exact ⟨rfl, H.out, H2.out⟩
set_option maxHeartbeats 4000000 in
theorem awake1 (w : World) : Calls Tryd.prog 10 #[] w fun e w' => e = .returned (.bool true) ∧ Below w.heap.size w w' := by
  have hst : ((⟨#[2, 1, 97, 0, 0]⟩ : ByteArray).toList == [2, 1, 97, 0, 0]) = true := by rw [ByteArray.toList_eq]; decide +kernel
  have h97 : ((⟨#[97]⟩ : ByteArray).toList == [97]) = true := by rw [ByteArray.toList_eq]; decide +kernel
  have W0 : Ws w w.heap.size [] (w.alloc (.cells #[.pointer none, .slice none 0 0] 30)) := Ws.new_ rfl
  go_enter Tryd.func10, Tryd.ntmps10
  go_wp2_with fail
  refine (ws_put W0 258 2 2 (by decide) (by decide) (by simp)).mono ?_
  rintro e w1 ⟨rfl, W1⟩
  rw [show ([] ++ le 258 2 : List UInt8) = [2, 1] by decide] at W1
  clear W0
  go_wp2_with fail
  refine (ws_text W1 ⟨#[97]⟩ (by simp [ByteArray.size])).mono ?_
  rintro e w2 ⟨rfl, W2⟩
  rw [show ([2, 1] ++ (⟨#[97]⟩ : ByteArray).data.toList : List UInt8) = [2, 1, 97] by decide] at W2
  clear W1
  go_wp2_with fail
  refine (ws_fill W2 5 (by decide) (by simp)).mono ?_
  rintro e w3 ⟨rfl, W3⟩
  rw [show (fillL [2, 1, 97] 5 : List UInt8) = [2, 1, 97, 0, 0] by decide] at W3
  clear W2
  go_wp2_with fail
  refine (ws_str W3).mono ?_
  rintro e w4 ⟨rfl, W4⟩
  clear W3
  go_wp2_with fail
  refine (of_any ⟨#[2, 1, 97, 0, 0]⟩ w4).mono ?_
  rintro e w5 ⟨rfl, U5⟩
  have hbb : w.heap.size < w4.heap.size := W4.size
  have W5 : Ws w w.heap.size [2, 1, 97, 0, 0] w5 := W4.call (by
    have := U5.grown
    exact ⟨this.os, this.tape, this.output, this.size, fun i hi => this.block i hi (by simp; omega)⟩)
  have R5 := U5.blk
  clear W4 U5
  generalize w4.heap.size = b2 at R5 hbb ⊢
  go_wp2_with fail
  refine (ws_str2 W5 R5 (by decide) (by omega)).mono ?_
  rintro e w6 ⟨rfl, W6, R6⟩
  clear W5 R5
  go_wp2_with fail
  refine (ws_len W6).mono ?_
  rintro e w7 ⟨rfl, rfl⟩
  go_wp2_with fail
  refine (get_any b2 ([2, 1, 97, 0, 0], false) 2 w6 (by decide) (by decide) R6 (by decide)).mono ?_
  rw [show getN ([2, 1, 97, 0, 0], false) 2 = (258, ([97, 0, 0], false)) by decide]
  rintro e w8 ⟨rfl, U8⟩
  have W8 := W6.reader R6 hbb U8
  have R8 := U8.blk
  clear W6 R6 U8
  go_wp2_with fail
  refine (u_take (st := ([97, 0, 0], false)) R8 1 (by decide) (by decide)).mono ?_
  rw [show takeN ([97, 0, 0], false) 1 = ([97], ([0, 0], false)) by decide]
  rintro e w9 ⟨rfl, U9⟩
  have W9 := W8.reader R8 hbb U9
  have R9 := U9.blk
  clear W8 R8 U9
  go_wp2_with fail
  refine (u_end (st := ([0, 0], false)) R9).mono ?_
  rw [show endE ([0, 0], false) = 3 by decide]
  rintro e w10 ⟨rfl, rfl⟩
  go_wp2_with fail
  refine (u_zeros (st := ([0, 0], false)) R9 (by decide)).mono ?_
  rintro e w11 ⟨rfl, U11⟩
  have W11 := W9.reader R9 hbb U11
  have R11 : Blk w11 b2 86 (rdr ⟨([] : List UInt8).toArray⟩ false) := U11.blk
  clear W9 R9 U11
  go_wp2_with fail
  refine (u_end (st := ([], false)) R11).mono ?_
  rw [show endE ([], false) = 0 by decide]
  rintro e w12 ⟨rfl, rfl⟩
  go_wp2_with fail
  refine (get_any b2 ([], false) 1 w11 (by decide) (by decide) R11 (by decide)).mono ?_
  rw [show getN ([], false) 1 = (0, ([], true)) by decide]
  rintro e w13 ⟨rfl, U13⟩
  have W13 := W11.reader R11 hbb U13
  have R13 := U13.blk
  clear W11 R11 U13
  go_wp2_with fail
  refine (u_end (st := ([], true)) R13).mono ?_
  rw [show endE ([], true) = 3 by decide]
  rintro e w14 ⟨rfl, rfl⟩
  have hB := W13.below_
  clear W13 R13
  go_wp2_with fail
  go_ret
  exact ⟨rfl, hB⟩
end Go.Proofs.YtencbdcfcpohaaaDoor
