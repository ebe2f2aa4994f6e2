/- The walks of strings.Builder's WriteString, WriteByte, String on the builder that lies in an octet.Writer of the call's own. -/
import Derived.Test.YtencbdcfcpohaaaDoorBuilder
import Derived.RegionTactic
namespace Go.Proofs.YtencbdcfcpohaaaDoor
set_option linter.unusedVariables false
set_option linter.unusedSimpArgs false
open Go.RowKit

theorem byteCells_append (a b : List UInt8) : Lib.byteCells (a ++ b) = Lib.byteCells a ++ Lib.byteCells b := by simp [Lib.byteCells]

/-- Behind an append the new buffer is stored into the writer. -/
theorem wr_store {w1 w2 : World} {b : Nat} {g : Option Nat} {v v' p : Value} {l' : List UInt8} (hb : w1.heap[b]? = some (.cells #[p, v] 30 (0, 0))) (hv : v.ownBlock = g) (hne : g ≠ some b)
    (hown : w2.ownsRowF 0 5 1 v' l'.length (Lib.byteCells l')) (hgrow : w1.grownBy w2 v.ownBlock) (hf : v'.ownBlock = v.ownBlock ∨ ∃ k, v'.ownBlock = some k ∧ w1.heap.size ≤ k) :
    WrP (w2.setCell ⟨b, 1, none⟩ v') b v'.ownBlock p l' ∧ Wrote w1 b g v'.ownBlock (w2.setCell ⟨b, 1, none⟩ v') := by
  have hlt : b < w1.heap.size := Blk.lt hb
  have hb2 : w2.heap[b]? = some (.cells #[p, v] 30 (0, 0)) := (hgrow.block b hlt (fun e => hne (by rw [← hv, e]))).trans hb
  have hne' : v'.ownBlock ≠ some b := Lib.ownBlock_neF hown hb2 (by decide)
  refine ⟨⟨v', Blk.set_ hb2 1 v', ?_, rfl⟩, ⟨hgrow.os, hgrow.tape, hgrow.output, by simpa [World.setCell] using hgrow.size, fun k hk hkb hkg => ?_, ?_⟩⟩
  · exact hown.kept (row := some b) ⟨rfl, rfl, rfl, by simp [World.setCell], fun k _ hk => Below.heap_setCell _ _ _ _ (fun e => hk (by simp [e]))⟩ (.inr hne')
  · exact (Below.heap_setCell _ _ _ _ hkb).trans (hgrow.block k hk (by rw [hv]; exact hkg))
  · rw [hv] at hf
    exact hf

set_option maxHeartbeats 2000000 in
set_option maxRecDepth 100000 in
theorem writeString_any (b : Nat) (g : Option Nat) (l : List UInt8) (s : ByteArray) (w : World) (h : Wr w b g l) (hlen : l.length + s.size ≤ 140737488355328) :
    Calls Tryd.prog 37 #[.pointer (some ⟨b, 0, none⟩), .string s] w fun e w' => e = .returned (.tuple #[.int .i64 s.size, .nilIface]) ∧ ∃ g', WrP w' b g' (.pointer (some ⟨b, 0, none⟩)) (l ++ s.data.toList) ∧ Wrote w b g g' w' := by
  obtain ⟨i0, hi, hz0, hz1, hz2⟩ := info_parts infoByte
  have hne := h.ne
  go_enter Tryd.func37, Tryd.ntmps37
  go_wp2_with fail
  refine (copyCheck_any b g l _ h).mono ?_
  rintro e w1 ⟨rfl, h1, k1⟩
  obtain ⟨v, hbk, hown, hg⟩ := h1
  have Hg := Lib.hid hg
  clear hg
  have c0 : w1.cell? ⟨b, 0, none⟩ = some (.pointer (some ⟨b, 0, none⟩)) := Blk.cell hbk 0
  have c1 : w1.cell? ⟨b, 1, none⟩ = some v := Blk.cell hbk 1
  go_wp2_with (at_builtin; refine wp_buf_string _ rfl _ _ 26 9 rfl 0 5 i0 Tryd.underlying26 Tryd.underlying9 hi hz0 hz1 hz2 _ _ _ rfl hown s rfl ?c3 ?c4 ?c5 ?_)
  case c3 => unfold maxLen; omega
  case c4 => omega
  case c5 => omega
  intro v' w2 hown' hgrow hfr
  rw [show Lib.strCells s = Lib.byteCells s.data.toList from rfl, ← byteCells_append] at hown'
  have hown2 : w2.ownsRowF 0 5 1 v' (l ++ s.data.toList).length (Lib.byteCells (l ++ s.data.toList)) := by simpa using hown'
  have hb2 : w2.heap[b]? = some (.cells #[.pointer (some ⟨b, 0, none⟩), v] 30 (0, 0)) := (hgrow.block b (Blk.lt hbk) (fun e => hne (by rw [← Hg.out, e]))).trans hbk
  have d1 : w2.cell? ⟨b, 1, none⟩ = some v := Blk.cell hb2 1
  have f1 : w2.frozen? ⟨b, 1, none⟩ = false := Blk.frozen hb2 1
  obtain ⟨k2, k3⟩ := wr_store hbk Hg.out hne hown2 hgrow hfr
  have hex : ∃ ao n' cap, v' = .slice ao n' cap := by
    rcases hown'.2 with ⟨hv, _⟩ | ⟨g, cap, cur, fz, hv, _⟩
    · exact ⟨_, _, _, hv⟩
    · exact ⟨_, _, _, hv⟩
  obtain ⟨ao, n', cap, rfl⟩ := hex
  clear hown' hown2 hgrow hfr hown
  have K2 := Lib.hid k2
  have K3 := Lib.hid (k1.trans k3)
  clear k1 k2 k3
  go_wp2
  go_ret2
  exact ⟨rfl, _, K2.out, K3.out⟩

set_option maxHeartbeats 2000000 in
set_option maxRecDepth 100000 in
theorem writeByte_any (b : Nat) (g : Option Nat) (l : List UInt8) (c : UInt8) (w : World) (h : Wr w b g l) (hlen : l.length + 1 ≤ 140737488355328) :
    Calls Tryd.prog 36 #[.pointer (some ⟨b, 0, none⟩), .int .u8 c.toNat] w fun e w' => e = .returned .nilIface ∧ ∃ g', WrP w' b g' (.pointer (some ⟨b, 0, none⟩)) (l ++ [c]) ∧ Wrote w b g g' w' := by
  obtain ⟨i0, hi, hz0, hz1, hz2⟩ := info_parts infoByte
  have hne := h.ne
  go_enter Tryd.func36, Tryd.ntmps36
  go_wp2_with fail
  refine (copyCheck_any b g l _ h).mono ?_
  rintro e w1 ⟨rfl, h1, k1⟩
  obtain ⟨v, hbk, hown, hg⟩ := h1
  have Hg := Lib.hid hg
  clear hg
  have c0 : w1.cell? ⟨b, 0, none⟩ = some (.pointer (some ⟨b, 0, none⟩)) := Blk.cell hbk 0
  have c1 : w1.cell? ⟨b, 1, none⟩ = some v := Blk.cell hbk 1
  go_wp2_with (at_builtin; refine wp_buf_cells _ rfl _ _ 26 rfl 0 5 i0 (.int .u8 0) 1 1 Tryd.underlying26 hi hz0 hz1 hz2 rfl (by decide) _ _ _ rfl (hown.alloc _) ⟨w1.heap.size, 0, none⟩ 1 1 [.int .u8 c.toNat] rfl rfl ?c1 ?c2 ?c3 ?c4 ?c5 ?_)
  case c1 =>
    intro j u hj
    match j, hj with
    | 0, hj => simp at hj; subst hj; simp [Addr.add]
  case c2 => intro u hu; simp at hu; subst hu; rfl
  case c3 => unfold maxLen; omega
  case c4 => omega
  case c5 => simp
  intro v' w2 hown' hgrow hfr
  have hown2 : w2.ownsRowF 0 5 1 v' (l ++ [c]).length (Lib.byteCells (l ++ [c])) := by simpa [Lib.byteCells] using hown'
  have hgrow' : w1.grownBy w2 v.ownBlock := ⟨hgrow.os, hgrow.tape, hgrow.output, by have := hgrow.size; (try simp at this); omega, fun k hk hne => (hgrow.block k (by (try simp); omega) hne).trans (Below.heap_alloc w1 _ k hk)⟩
  have hfr' : v'.ownBlock = v.ownBlock ∨ ∃ k, v'.ownBlock = some k ∧ w1.heap.size ≤ k := by
    rcases hfr with e | ⟨k, e, hk⟩
    · exact .inl e
    · exact .inr ⟨k, e, by (try simp at hk); omega⟩
  have hb2 : w2.heap[b]? = some (.cells #[.pointer (some ⟨b, 0, none⟩), v] 30 (0, 0)) := (hgrow'.block b (Blk.lt hbk) (fun e => hne (by rw [← Hg.out, e]))).trans hbk
  have d1 : w2.cell? ⟨b, 1, none⟩ = some v := Blk.cell hb2 1
  have f1 : w2.frozen? ⟨b, 1, none⟩ = false := Blk.frozen hb2 1
  obtain ⟨k2, k3⟩ := wr_store hbk Hg.out hne hown2 hgrow' hfr'
  have hex : ∃ ao n' cap, v' = .slice ao n' cap := by
    rcases hown'.2 with ⟨hv, _⟩ | ⟨g, cap, cur, fz, hv, _⟩
    · exact ⟨_, _, _, hv⟩
    · exact ⟨_, _, _, hv⟩
  obtain ⟨ao, n', cap, rfl⟩ := hex
  clear hown' hown2 hgrow hgrow' hfr hfr' hown
  have K2 := Lib.hid k2
  have K3 := Lib.hid (k1.trans k3)
  clear k1 k2 k3
  go_wp2
  go_ret
  exact ⟨rfl, _, K2.out, K3.out⟩

theorem wrote_freeze {w : World} {b k : Nat} (n : Nat) : Wrote w b (some k) (some k) (w.freeze ⟨k, 0, none⟩ n) := by
  unfold World.freeze
  split
  · exact Wrote.refl _ _ _
  · exact ⟨rfl, rfl, rfl, by simp, fun i _ _ hi => by
      simp only [Array.getElem?_modify]
      rw [if_neg (fun e => hi (by rw [e]))], .inl rfl⟩

/-- String of a writer that holds at least one byte. -/
theorem string_some (b : Nat) (g : Option Nat) (l : List UInt8) (w : World) (h : Wr w b g l) (h0 : l ≠ []) :
    Calls Tryd.prog 40 #[.pointer (some ⟨b, 0, none⟩)] w fun e w' => e = .returned (.string ⟨l.toArray⟩) ∧ Wr w' b g l ∧ Wrote w b g g w' := by
  obtain ⟨p, hp, v, hbk, hown, hg⟩ : ∃ p, (p = .pointer none ∨ p = .pointer (some ⟨b, 0, none⟩)) ∧ WrP w b g p l := by
    rcases h with h | h
    · exact ⟨_, .inl rfl, h⟩
    · exact ⟨_, .inr rfl, h⟩
  have hne := h.ne
  have hl0 : l.length ≠ 0 := by simpa using h0
  obtain ⟨k, cap, cur, fz, rfl, _, hk, hfz, hnc, hcm, hcs, htake⟩ : ∃ k cap cur fz, v = .slice (some ⟨k, 0, none⟩) l.length cap ∧ 0 ≤ k ∧ w.heap[k]? = some (.cells cur 5 fz) ∧ fz.2 ≤ l.length * 1 ∧ l.length ≤ cap ∧ cap ≤ maxLen ∧ cur.size = cap * 1 ∧ cur.toList.take (l.length * 1) = Lib.byteCells l := by
    rcases hown.2 with ⟨_, hz⟩ | ⟨g, cap, cur, fz, hv, r⟩
    · exact absurd hz hl0
    · exact ⟨g, cap, cur, fz, hv, r⟩
  have c1 : w.drew.cell? ⟨b, 1, none⟩ = some (.slice (some ⟨k, 0, none⟩) l.length cap) := Blk.cell (w := w.drew) hbk 1
  have hSD : (Builtin.unsafeSliceData_ #[26] 101 #[.slice (some ⟨k, 0, none⟩) l.length cap]).run Tryd.prog w.drew = .ok (.pointer (some ⟨k, 0, none⟩)) w.drew :=
    Lib.run_unsafeSliceData_row _ _ _ _ _ _ (by omega)
  have hUS : (Builtin.unsafeString_ #[101, 3] 9 #[.pointer (some ⟨k, 0, none⟩), .int .i64 l.length]).run Tryd.prog w.drew = .ok (.string ⟨l.toArray⟩) (w.drew.freeze ⟨k, 0, none⟩ l.length) := by
    refine Lib.run_unsafeString_row w.drew 101 3 9 5 Tryd.underlying101 cellsByte k cur.size (by have hg' : w.drew.heap[k]? = some (.cells cur 5 fz) := hk; simp [World.shape?, hg']) l h0 (by omega) (by unfold maxLen at hcm; omega) ?_
    intro j x hx
    have := hown.cells (g := k) rfl j (.int .u8 x.toNat) (by simp [Lib.byteCells, hx])
    exact this
  have hg' : g = some k := by rw [← hg]; rfl
  have hkeep : Wr (w.drew.freeze ⟨k, 0, none⟩ l.length) b g l := by
    have hA : Lib.BuilderAtF 30 5 0 b p (Lib.byteCells l) w.drew := ⟨Nat.zero_le _, _, hbk, by rw [Lib.byteCells_length]; exact hown, by rw [hg]; exact hne⟩
    have hF := hA.froze (g := k) (cap := cap) (by rw [Lib.byteCells_length]; exact c1)
    rw [Lib.byteCells_length] at hF
    obtain ⟨_, v, x1, x2, _⟩ := hF
    have hv : v = .slice (some ⟨k, 0, none⟩) l.length cap := by
      have y := Blk.cell (w := w.drew.freeze ⟨k, 0, none⟩ l.length) x1 1
      have hbb : (w.drew.freeze ⟨k, 0, none⟩ l.length).heap[b]? = w.heap[b]? := (wrote_freeze (w := w.drew) (b := k) (k := k) l.length).block b (by have := h.lt; simpa using this) (fun e => hne (by rw [hg', e])) (fun e => hne (by rw [hg', ← e]))
      rw [hbb, hbk] at x1
      injection x1 with x1
      injection x1 with x1
      simp at x1
      exact x1.symm
    subst hv
    rw [Lib.byteCells_length] at x2
    rcases hp with rfl | rfl
    · exact .inl ⟨_, x1, x2, hg⟩
    · exact .inr ⟨_, x1, x2, hg⟩
  have hW : Wrote w b g g (w.drew.freeze ⟨k, 0, none⟩ l.length) := by
    rw [hg']
    exact (Wrote.refl w b (some k)).drew.trans (wrote_freeze _)
  have HK := Lib.hid hkeep
  have HW := Lib.hid hW
  clear hkeep hW hg hg'
  go_enter Tryd.func40, Tryd.ntmps40
  go_wp2
  go_region
  all_goals (go_wp2; go_ret; exact ⟨rfl, HK.out, HW.out⟩)
end Go.Proofs.YtencbdcfcpohaaaDoor
