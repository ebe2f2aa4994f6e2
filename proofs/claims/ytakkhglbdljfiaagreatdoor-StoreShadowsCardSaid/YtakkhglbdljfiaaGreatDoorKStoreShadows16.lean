/- The walks of strings.Builder's WriteString, WriteByte, String on the builder that lies in an octet.Writer of the call's own. -/
import Derived.Test.YtakkhglbdljfiaaGreatDoorKStoreShadows15
import Derived.RegionTactic
import Derived.Test.YtakkhglbdljfiaaGreatDoorKStoreShadows00
import Derived.Laws.BitsAllLaws
import Derived.Laws.IdiomStrings
import Derived.Laws.BytesArg
import Derived.Lib.Strings
namespace Go.Proofs.YtakkhglbdljfiaaGreatDoor
set_option linter.unusedVariables false
set_option linter.unusedSimpArgs false
open Go.RowKit

theorem Z40 (a b : List UInt8) : Lib.byteCells (a ++ b) = Lib.byteCells a ++ Lib.byteCells b := by simp [Lib.byteCells]

/-- Behind an append the new buffer is stored into the writer. -/
theorem Z80 {w1 w2 : World} {b : Nat} {g : Option Nat} {v v' p : Value} {l' : List UInt8} (hb : w1.heap[b]? = some (.cells #[p, v] 132 (0, 0))) (hv : v.ownBlock = g) (hne : g ≠ some b)
    (hown : w2.ownsRowF 0 5 1 v' l'.length (Lib.byteCells l')) (hgrow : w1.grownBy w2 v.ownBlock) (hf : v'.ownBlock = v.ownBlock ∨ ∃ k, v'.ownBlock = some k ∧ w1.heap.size ≤ k) :
    WrP (w2.setCell ⟨b, 1, none⟩ v') b v'.ownBlock p l' ∧ Wrote w1 b g v'.ownBlock (w2.setCell ⟨b, 1, none⟩ v') := by
  have hlt : b < w1.heap.size := Blk.lt hb
  have hb2 : w2.heap[b]? = some (.cells #[p, v] 132 (0, 0)) := (hgrow.block b hlt (fun e => hne (by rw [← hv, e]))).trans hb
  have hne' : v'.ownBlock ≠ some b := Lib.ownBlock_neF hown hb2 (by decide)
  refine ⟨⟨v', Blk.set_ hb2 1 v', ?_, rfl⟩, ⟨hgrow.os, hgrow.tape, hgrow.output, by simpa [World.setCell] using hgrow.size, fun k hk hkb hkg => ?_, ?_⟩⟩
  · exact hown.kept (row := some b) ⟨rfl, rfl, rfl, by simp [World.setCell], fun k _ hk => Below.heap_setCell _ _ _ _ (fun e => hk (by simp [e]))⟩ (.inr hne')
  · exact (Below.heap_setCell _ _ _ _ hkb).trans (hgrow.block k hk (by rw [hv]; exact hkg))
  · rw [hv] at hf
    exact hf

set_option maxHeartbeats 2000000 in
set_option maxRecDepth 100000 in
theorem Z29 (b : Nat) (g : Option Nat) (l : List UInt8) (s : ByteArray) (w : World) (h : Wr w b g l) (hlen : l.length + s.size ≤ 140737488355328) :
    Calls Tryz.prog 84 #[.pointer (some ⟨b, 0, none⟩), .string s] w fun e w' => e = .returned (.tuple #[.int .i64 s.size, .nilIface]) ∧ ∃ g', WrP w' b g' (.pointer (some ⟨b, 0, none⟩)) (l ++ s.data.toList) ∧ Wrote w b g g' w' := by
  obtain ⟨i0, hi, hz0, hz1, hz2⟩ := info_parts infoByte
  have hne := h.ne
  go_enter Tryz.func84, Tryz.ntmps84
  go_wp2_with fail
  refine (Z3a b g l _ h).mono ?_
  rintro e w1 ⟨rfl, h1, k1⟩
  obtain ⟨v, hbk, hown, hg⟩ := h1
  have Hg := Lib.hid hg
  clear hg
  have c0 : w1.cell? ⟨b, 0, none⟩ = some (.pointer (some ⟨b, 0, none⟩)) := Blk.cell hbk 0
  have c1 : w1.cell? ⟨b, 1, none⟩ = some v := Blk.cell hbk 1
  go_wp2_with (at_builtin; refine Z2x _ rfl _ _ 81 9 rfl 0 5 i0 Tryz.underlying81 Tryz.underlying9 hi hz0 hz1 hz2 _ _ _ rfl hown s rfl ?c3 ?c4 ?c5 ?_)
  case c3 => unfold maxLen; omega
  case c4 => omega
  case c5 => omega
  intro v' w2 hown' hgrow hfr
  rw [show Lib.strCells s = Lib.byteCells s.data.toList from rfl, ← Z40] at hown'
  have hown2 : w2.ownsRowF 0 5 1 v' (l ++ s.data.toList).length (Lib.byteCells (l ++ s.data.toList)) := by simpa using hown'
  have hb2 : w2.heap[b]? = some (.cells #[.pointer (some ⟨b, 0, none⟩), v] 132 (0, 0)) := (hgrow.block b (Blk.lt hbk) (fun e => hne (by rw [← Hg.out, e]))).trans hbk
  have d1 : w2.cell? ⟨b, 1, none⟩ = some v := Blk.cell hb2 1
  have f1 : w2.frozen? ⟨b, 1, none⟩ = false := Blk.frozen hb2 1
  obtain ⟨k2, k3⟩ := Z80 hbk Hg.out hne hown2 hgrow hfr
  have hex : ∃ ao n' cap, v' = .slice ao n' cap := by
    rcases hown'.2 with ⟨hv, _⟩ | ⟨g, cap, cur, fz, hv, _⟩
    · exact ⟨_, _, _, hv⟩
    · exact ⟨_, _, _, hv⟩
  obtain ⟨ao, n', cap, rfl⟩ := hex
  clear hown' hown2 hgrow hfr hown
  have K2 := Lib.hid k2
  have K3 := Lib.hid (k1.trans k3)
  clear k1 k2 k3
  go_wp2
  go_ret2
  exact ⟨rfl, _, K2.out, K3.out⟩

set_option maxHeartbeats 2000000 in
set_option maxRecDepth 100000 in
theorem Z5l (b : Nat) (g : Option Nat) (l : List UInt8) (c : UInt8) (w : World) (h : Wr w b g l) (hlen : l.length + 1 ≤ 140737488355328) :
    Calls Tryz.prog 106 #[.pointer (some ⟨b, 0, none⟩), .int .u8 c.toNat] w fun e w' => e = .returned .nilIface ∧ ∃ g', WrP w' b g' (.pointer (some ⟨b, 0, none⟩)) (l ++ [c]) ∧ Wrote w b g g' w' := by
  obtain ⟨i0, hi, hz0, hz1, hz2⟩ := info_parts infoByte
  have hne := h.ne
  go_enter Tryz.func106, Tryz.ntmps106
  go_wp2_with fail
  refine (Z3a b g l _ h).mono ?_
  rintro e w1 ⟨rfl, h1, k1⟩
  obtain ⟨v, hbk, hown, hg⟩ := h1
  have Hg := Lib.hid hg
  clear hg
  have c0 : w1.cell? ⟨b, 0, none⟩ = some (.pointer (some ⟨b, 0, none⟩)) := Blk.cell hbk 0
  have c1 : w1.cell? ⟨b, 1, none⟩ = some v := Blk.cell hbk 1
  go_wp2_with (at_builtin; refine Z66 _ rfl _ _ 81 rfl 0 5 i0 (.int .u8 0) 1 1 Tryz.underlying81 hi hz0 hz1 hz2 rfl (by decide) _ _ _ rfl (hown.alloc _) ⟨w1.heap.size, 0, none⟩ 1 1 [.int .u8 c.toNat] rfl rfl ?c1 ?c2 ?c3 ?c4 ?c5 ?_)
  case c1 =>
    intro j u hj
    match j, hj with
    | 0, hj => simp at hj; subst hj; simp [Addr.add]
  case c2 => intro u hu; simp at hu; subst hu; rfl
  case c3 => unfold maxLen; omega
  case c4 => omega
  case c5 => simp
  intro v' w2 hown' hgrow hfr
  have hown2 : w2.ownsRowF 0 5 1 v' (l ++ [c]).length (Lib.byteCells (l ++ [c])) := by simpa [Lib.byteCells] using hown'
  have hgrow' : w1.grownBy w2 v.ownBlock := ⟨hgrow.os, hgrow.tape, hgrow.output, by have := hgrow.size; (try simp at this); omega, fun k hk hne => (hgrow.block k (by (try simp); omega) hne).trans (Below.heap_alloc w1 _ k hk)⟩
  have hfr' : v'.ownBlock = v.ownBlock ∨ ∃ k, v'.ownBlock = some k ∧ w1.heap.size ≤ k := by
    rcases hfr with e | ⟨k, e, hk⟩
    · exact .inl e
    · exact .inr ⟨k, e, by (try simp at hk); omega⟩
  have hb2 : w2.heap[b]? = some (.cells #[.pointer (some ⟨b, 0, none⟩), v] 132 (0, 0)) := (hgrow'.block b (Blk.lt hbk) (fun e => hne (by rw [← Hg.out, e]))).trans hbk
  have d1 : w2.cell? ⟨b, 1, none⟩ = some v := Blk.cell hb2 1
  have f1 : w2.frozen? ⟨b, 1, none⟩ = false := Blk.frozen hb2 1
  obtain ⟨k2, k3⟩ := Z80 hbk Hg.out hne hown2 hgrow' hfr'
  have hex : ∃ ao n' cap, v' = .slice ao n' cap := by
    rcases hown'.2 with ⟨hv, _⟩ | ⟨g, cap, cur, fz, hv, _⟩
    · exact ⟨_, _, _, hv⟩
    · exact ⟨_, _, _, hv⟩
  obtain ⟨ao, n', cap, rfl⟩ := hex
  clear hown' hown2 hgrow hgrow' hfr hfr' hown
  have K2 := Lib.hid k2
  have K3 := Lib.hid (k1.trans k3)
  clear k1 k2 k3
  go_wp2
  go_ret
  exact ⟨rfl, _, K2.out, K3.out⟩

theorem Z3p {w : World} {b k : Nat} (n : Nat) : Wrote w b (some k) (some k) (w.freeze ⟨k, 0, none⟩ n) := by
  unfold World.freeze
  split
  · exact Wrote.refl _ _ _
  · exact ⟨rfl, rfl, rfl, by simp, fun i _ _ hi => by
      simp only [Array.getElem?_modify]
      rw [if_neg (fun e => hi (by rw [e]))], .inl rfl⟩

/-- String of a writer that holds at least one byte. -/
theorem Z49 (b : Nat) (g : Option Nat) (l : List UInt8) (w : World) (h : Wr w b g l) (h0 : l ≠ []) :
    Calls Tryz.prog 86 #[.pointer (some ⟨b, 0, none⟩)] w fun e w' => e = .returned (.string ⟨l.toArray⟩) ∧ Wr w' b g l ∧ Wrote w b g g w' := by
  obtain ⟨p, hp, v, hbk, hown, hg⟩ : ∃ p, (p = .pointer none ∨ p = .pointer (some ⟨b, 0, none⟩)) ∧ WrP w b g p l := by
    rcases h with h | h
    · exact ⟨_, .inl rfl, h⟩
    · exact ⟨_, .inr rfl, h⟩
  have hne := h.ne
  have hl0 : l.length ≠ 0 := by simpa using h0
  obtain ⟨k, cap, cur, fz, rfl, _, hk, hfz, hnc, hcm, hcs, htake⟩ : ∃ k cap cur fz, v = .slice (some ⟨k, 0, none⟩) l.length cap ∧ 0 ≤ k ∧ w.heap[k]? = some (.cells cur 5 fz) ∧ fz.2 ≤ l.length * 1 ∧ l.length ≤ cap ∧ cap ≤ maxLen ∧ cur.size = cap * 1 ∧ cur.toList.take (l.length * 1) = Lib.byteCells l := by
    rcases hown.2 with ⟨_, hz⟩ | ⟨g, cap, cur, fz, hv, r⟩
    · exact absurd hz hl0
    · exact ⟨g, cap, cur, fz, hv, r⟩
  have c1 : w.drew.cell? ⟨b, 1, none⟩ = some (.slice (some ⟨k, 0, none⟩) l.length cap) := Blk.cell (w := w.drew) hbk 1
  have hSD : (Builtin.unsafeSliceData_ #[81] 167 #[.slice (some ⟨k, 0, none⟩) l.length cap]).run Tryz.prog w.drew = .ok (.pointer (some ⟨k, 0, none⟩)) w.drew :=
    Lib.run_unsafeSliceData_row _ _ _ _ _ _ (by omega)
  have hUS : (Builtin.unsafeString_ #[167, 3] 9 #[.pointer (some ⟨k, 0, none⟩), .int .i64 l.length]).run Tryz.prog w.drew = .ok (.string ⟨l.toArray⟩) (w.drew.freeze ⟨k, 0, none⟩ l.length) := by
    refine Lib.run_unsafeString_row w.drew 167 3 9 5 Tryz.underlying167 cellsByte k cur.size (by have hg' : w.drew.heap[k]? = some (.cells cur 5 fz) := hk; simp [World.shape?, hg']) l h0 (by omega) (by unfold maxLen at hcm; omega) ?_
    intro j x hx
    have := hown.cells (g := k) rfl j (.int .u8 x.toNat) (by simp [Lib.byteCells, hx])
    exact this
  have hg' : g = some k := by rw [← hg]; rfl
  have hkeep : Wr (w.drew.freeze ⟨k, 0, none⟩ l.length) b g l := by
    have hA : Lib.BuilderAtF 132 5 0 b p (Lib.byteCells l) w.drew := ⟨Nat.zero_le _, _, hbk, by rw [Lib.byteCells_length]; exact hown, by rw [hg]; exact hne⟩
    have hF := hA.froze (g := k) (cap := cap) (by rw [Lib.byteCells_length]; exact c1)
    rw [Lib.byteCells_length] at hF
    obtain ⟨_, v, x1, x2, _⟩ := hF
    have hv : v = .slice (some ⟨k, 0, none⟩) l.length cap := by
      have y := Blk.cell (w := w.drew.freeze ⟨k, 0, none⟩ l.length) x1 1
      have hbb : (w.drew.freeze ⟨k, 0, none⟩ l.length).heap[b]? = w.heap[b]? := (Z3p (w := w.drew) (b := k) (k := k) l.length).block b (by have := h.lt; simpa using this) (fun e => hne (by rw [hg', e])) (fun e => hne (by rw [hg', ← e]))
      rw [hbb, hbk] at x1
      injection x1 with x1
      injection x1 with x1
      simp at x1
      exact x1.symm
    subst hv
    rw [Lib.byteCells_length] at x2
    rcases hp with rfl | rfl
    · exact .inl ⟨_, x1, x2, hg⟩
    · exact .inr ⟨_, x1, x2, hg⟩
  have hW : Wrote w b g g (w.drew.freeze ⟨k, 0, none⟩ l.length) := by
    rw [hg']
    exact (Wrote.refl w b (some k)).drew.trans (Z3p _)
  have HK := Lib.hid hkeep
  have HW := Lib.hid hW
  clear hkeep hW hg hg'
  go_enter Tryz.func86, Tryz.ntmps86
  go_wp2
  go_region
  all_goals (go_wp2; go_ret; exact ⟨rfl, HK.out, HW.out⟩)
end Go.Proofs.YtakkhglbdljfiaaGreatDoor

/- The walks of octet.Writer: Put, Text, String. -/
namespace Go.Proofs.YtakkhglbdljfiaaGreatDoor
set_option linter.unusedVariables false
set_option linter.unusedSimpArgs false
open Go.RowKit

def clampSize (n : Int) : Nat := (min (max n 1) 8).toNat

theorem u8_of (m : Nat) : IntKind.u8.wrap (m : Int) = ((UInt8.ofNat m).toNat : Int) := by
  simp [IntKind.wrap, IntKind.bits, IntKind.signed]

theorem Z67 (n : Int) (w : World) : Calls Tryz.prog 105 #[.int .i64 n] w fun e w' => e = .returned (.int .i64 (clampSize n)) ∧ w = w' := by
  go_enter Tryz.func105, Tryz.ntmps105
  by_cases h0 : n < 1
  · go_wp2
    all_goals
      go_ret
      exact ⟨Z3j (by unfold clampSize; omega), rfl⟩
  · by_cases h8 : 8 < n
    · go_wp2
      all_goals
        go_ret
        exact ⟨Z3j (by unfold clampSize; omega), rfl⟩
    · go_wp2
      all_goals
        go_ret
        exact ⟨Z3j (by unfold clampSize; omega), rfl⟩

theorem text_any (b : Nat) (g : Option Nat) (l : List UInt8) (s : ByteArray) (w : World) (h : Wr w b g l) (hlen : l.length + s.size ≤ 140737488355328) :
    Calls Tryz.prog 107 #[.pointer (some ⟨b, 0, none⟩), .string s] w fun e w' => e = .returned (.tuple #[]) ∧ ∃ g', Wr w' b g' (l ++ s.data.toList) ∧ Wrote w b g g' w' := by
  go_enter Tryz.func107, Tryz.ntmps107
  go_wp2_with fail
  refine (Z29 b g l s _ h hlen).mono ?_
  rintro e w1 ⟨rfl, g1, h1, k1⟩
  go_wp2_with fail
  go_end0
  exact ⟨rfl, g1, .inr h1, k1⟩

theorem Z3w (b : Nat) (g : Option Nat) (l : List UInt8) (w : World) (h : Wr w b g l) (h0 : l ≠ []) :
    Calls Tryz.prog 77 #[.pointer (some ⟨b, 0, none⟩)] w fun e w' => e = .returned (.string ⟨l.toArray⟩) ∧ Wr w' b g l ∧ Wrote w b g g w' := by
  go_enter Tryz.func77, Tryz.ntmps77
  go_wp2_with fail
  refine (Z49 b g l _ h h0).mono ?_
  rintro e w1 ⟨rfl, h1, k1⟩
  go_wp2_with fail
  go_ret
  exact ⟨rfl, h1, k1⟩

set_option maxHeartbeats 1000000 in
theorem Z7c (b : Nat) (g : Option Nat) (l : List UInt8) (n : Nat) (size : Int) (w : World) (hn : n < 18446744073709551616) (h : Wr w b g l) (hlen : l.length + 8 ≤ 140737488355328) :
    Calls Tryz.prog 75 #[.pointer (some ⟨b, 0, none⟩), .int .u64 n, .int .i64 size] w fun e w' => e = .returned (.tuple #[]) ∧ ∃ g', Wr w' b g' (l ++ le n (clampSize size)) ∧ Wrote w b g g' w' := by
  have hk8 : clampSize size ≤ 8 := by unfold clampSize; omega
  go_enter Tryz.func75, Tryz.ntmps75
  go_wp2_with fail
  refine (Z67 _ _).mono ?_
  rintro e w1 ⟨rfl, rfl⟩
  generalize hk : clampSize size = k at hk8 ⊢
  have Hk := Lib.hid hk
  clear hk
  go_wp2_with fail
  go_loopw [1, 10] (fun m i wr => ∃ (j M : Nat) (gj : Option Nat), j ≤ k ∧ m = .int .u64 M ∧ i = .int .i64 j ∧ Hid (M = n / 256 ^ j) ∧ M < 18446744073709551616 ∧ Wr wr b gj (l ++ le n j) ∧ Wrote w b g gj wr) (fun _ i _ => k - (intOf i).toNat)
  case atStart => exact ⟨0, n, g, by omega, rfl, rfl, by simp [Hid], hn, by simpa [le] using h, Wrote.refl _ _ _⟩
  case round =>
    obtain ⟨j, M, gj, hj, rfl, rfl, hM, hM1, hW, hR⟩ := hrel
    clear h
    by_cases hlt : j < k
    · have e1 := u8_of M
      go_wp2_with fail
      refine (Z5l b gj (l ++ le n j) (UInt8.ofNat M) _ hW (by rw [List.length_append, Z0a]; omega)).mono ?_
      rintro e w2 ⟨rfl, g2, h2, k2⟩
      clear e1
      go_wp2_with fail
      go_roundw
      case rel =>
        refine ⟨j + 1, M / 256, g2, by omega, by go_num, by go_num, ?_, by omega, ?_, hR.trans k2⟩
        · show M / 256 = n / 256 ^ (j + 1)
          rw [hM.out, Nat.div_div_eq_div_mul, Nat.pow_succ]
        · rw [le, ← List.append_assoc, ← hM.out]
          exact .inr h2
      case measure => simp [intOf]; omega
    · obtain rfl : j = k := by omega
      go_wp2_with fail
      go_end0
      exact ⟨rfl, gj, by rw [Hk.out]; exact hW, hR⟩
end Go.Proofs.YtakkhglbdljfiaaGreatDoor

/- Plain lemmas on uint64 bits in the walk's spelling. -/
namespace Go.Proofs.YtakkhglbdljfiaaGreatDoor
set_option linter.unusedVariables false
set_option linter.unusedSimpArgs false
open Go.RowKit

end Go.Proofs.YtakkhglbdljfiaaGreatDoor

/- '[]byte(s)' and 'string(b)': what the walk needs of them. -/
namespace Go.Proofs.YtakkhglbdljfiaaGreatDoor
set_option linter.unusedVariables false
set_option linter.unusedSimpArgs false
open Go.RowKit

/-- '[]byte(s)': a new block of the bytes. -/
theorem Z5i (s : ByteArray) (w : World) (hs : s.size ≤ maxLen) : ∃ (C : Array Value) (c : Nat) (fz : Nat × Nat),
    (convert 9 81 (.string s)).run Tryz.prog w = .ok (.slice (some ⟨w.heap.size, 0, none⟩) s.size c) (w.drew.alloc (.cells C 5 fz)) ∧
    (∀ i, C[i]? = if i < s.size then some (.int .u8 ((s.data.toList.getD i 0).toNat : Int)) else if i < c then some (.int .u8 0) else none) ∧ s.size ≤ c ∧ c ≤ maxLen ∧ C.size = c ∧ fz = (c, c + 1) := by
  have hge := grownCap_ge w s.size 0 5
  have hle := grownCap_le_maxLen w s.size 0 5 hs
  have hsz : (bytesRow s (grownCap w s.size 0 5)).size = grownCap w s.size 0 5 := by
    simp only [bytesRow, Array.size_append, Array.size_map, Array.size_replicate]
    have : s.data.size = s.size := rfl
    omega
  refine ⟨_, _, _, run_bytes_of_string w 9 81 5 s Tryz.underlying9 Tryz.underlying81 Tryz.underlying5, fun i => ?_, hge, hle, hsz, by rw [hsz]⟩
  have hd : s.data.size = s.size := rfl
  by_cases hi : i < s.size
  · rw [if_pos hi, bytesRow_at s _ i (by omega)]
    congr 3
    simp [List.getD, Array.getElem?_toList, hd, hi]
  · rw [if_neg hi]
    by_cases hc : i < grownCap w s.size 0 5
    · rw [if_pos hc]
      simp only [bytesRow]
      rw [Array.getElem?_append_right (by simp only [Array.size_map]; omega), Array.getElem?_replicate, if_pos (by simp only [Array.size_map]; omega)]
    · rw [if_neg hc]
      exact Array.getElem?_eq_none (by omega)

/-- 'string(b)': of a row whose cells are the bytes l. -/
theorem Z4s (w : World) (g off cap : Nat) (l : List UInt8) (n : Nat) (hn : l.length = n) (h : ∀ i, i < n → w.cell? ⟨g, off + i, none⟩ = some (.int .u8 ((l.getD i 0).toNat : Int))) :
    (convert 81 9 (.slice (some ⟨g, off, none⟩) n cap)).run Tryz.prog w = .ok (.string ⟨l.toArray⟩) w := by
  have hr := run_convert_bytes_arg (P := Tryz.prog) w 81 5 Tryz.underlying81 Tryz.underlying5 g off n cap (l.map fun b => (b.toNat : Int)) (by simpa using hn) (fun i hi => by
    have hil : i < l.length := by omega
    rw [h i hi]
    simp [List.getD, hil]) 9 Tryz.underlying9
  have hst : strOfNums (l.map fun b => (b.toNat : Int)) = ⟨l.toArray⟩ := by
    simp [strOfNums, List.map_map, Function.comp_def]
  rw [hr, hst]
end Go.Proofs.YtakkhglbdljfiaaGreatDoor

/- The walks of package castle: step, Sum, Seal, Open. -/
namespace Go.Proofs.YtakkhglbdljfiaaGreatDoor
set_option linter.unusedVariables false
set_option linter.unusedSimpArgs false
open Go.RowKit

theorem and1_u32 (c : Nat) (h : c < 4294967296) : bits .and .u32 (c : Int) 1 = ((c % 2 : Nat) : Int) := by
  have := u32_and_nat c 1 h (by decide)
  rw [Nat.and_one_is_mod] at this
  exact this
theorem Z72 (c d : Nat) (h : c < 4294967296) (hd : d < 4294967296) : bits .xor .u32 (c : Int) (d : Int) = ((c ^^^ d : Nat) : Int) := u32_xor_nat c d h hd

set_option maxHeartbeats 1000000 in
theorem step_any (c : Nat) (b : UInt8) (w : World) (hc : c < 4294967296) : Calls Tryz.prog 123 #[.int .u32 c, .int .u8 b.toNat] w fun e w' => e = .returned (.int .u32 (crcStep c b.toNat)) ∧ w = w' := by
  have hb := b.toNat_lt
  have e0 := Z72 c b.toNat hc (by omega)
  have hx : c ^^^ b.toNat < 4294967296 := Nat.xor_lt_two_pow (n := 32) hc (by omega)
  go_enter Tryz.func123, Tryz.ntmps123
  go_wp2_with fail
  go_loop [0, 9] (fun x i => ∃ (k X : Nat), k ≤ 8 ∧ i = .int .i64 k ∧ x = .int .u32 X ∧ X < 4294967296 ∧ Hid (X = crcIt k (c ^^^ b.toNat))) (fun _ i => 8 - (intOf i).toNat)
  case atStart => exact ⟨0, _, by omega, rfl, rfl, hx, rfl⟩
  case round =>
    obtain ⟨k, X, hk, rfl, rfl, hX, HX⟩ := hrel
    clear e0 hx
    by_cases hlt : k < 8
    · have e1 : bits .and .u32 (X : Int) 1 = (X : Int) % 2 := (and1_u32 X hX).trans (by omega)
      by_cases hp : X % 2 = 1
      · have e4 : ((X : Int) % 2 == 1) = true := by simp; omega
        obtain ⟨Y, hY⟩ : ∃ Y, Y = (X / 2) ^^^ 2197175160 := ⟨_, rfl⟩
        have hY1 : Y < 4294967296 := by rw [hY]; exact Nat.xor_lt_two_pow (n := 32) (by omega) (by decide)
        have e2 : bits .xor .u32 ((X : Int) / 2) 2197175160 = (Y : Int) := by
          rw [hY, ← Z72 (X / 2) 2197175160 (by omega) (by decide), show ((X / 2 : Nat) : Int) = (X : Int) / 2 by omega]
          rfl
        have HY := Lib.hid hY
        clear hY
        go_wp2_with fail
        go_round
        case rel =>
          refine ⟨k + 1, Y, by omega, by go_num, rfl, hY1, ?_⟩
          show Y = crcT (crcIt k (c ^^^ b.toNat))
          rw [← HX.out, crcT, if_pos hp, HY.out]
        case measure => simp [intOf]; omega
      · have e4 : ((X : Int) % 2 == 1) = false := by simp; omega
        go_wp2_with fail
        go_round
        case rel =>
          refine ⟨k + 1, X / 2, by omega, by go_num, by go_num, by omega, ?_⟩
          show X / 2 = crcT (crcIt k (c ^^^ b.toNat))
          rw [← HX.out, crcT, if_neg hp]
        case measure => simp [intOf]; omega
    · obtain rfl : k = 8 := by omega
      go_wp2_with fail
      go_ret
      exact ⟨Z3j (by rw [HX.out]; rfl), rfl⟩

theorem crc_snoc (s : ByteArray) (k : Nat) (h : k < s.size) : crcState 4294967295 (s.data.toList.take (k + 1)) = crcStep (crcState 4294967295 (s.data.toList.take k)) (s.data.toList.getD k 0).toNat := by
  have hl : k < s.data.toList.length := by simpa using h
  rw [List.take_succ_eq_append_getElem hl, Z4p]
  simp only [crcState, List.foldl_cons, List.foldl_nil, List.getD, List.getElem?_eq_getElem hl, Option.getD_some]

set_option maxRecDepth 10000 in
set_option maxHeartbeats 1000000 in
theorem sum_any (s : ByteArray) (w : World) (hs : s.size ≤ 140737488355328) :
    Calls Tryz.prog 108 #[.string s] w fun e w' => e = .returned (.int .u32 (crcSum s.data.toList)) ∧ Below w.heap.size w w' := by
  obtain ⟨C, c, fz, hcv, hC, hc1, hc2, hc3, hfz⟩ := Z5i s w (by unfold maxLen; omega)
  have hCell : ∀ i, i < s.size → (w.alloc (.cells C 5 fz)).cell? ⟨w.heap.size, i, none⟩ = some (.int .u8 ((s.data.toList.getD i 0).toNat : Int)) := by
    intro i hi
    have := (cell_of_row (w.alloc (.cells C 5 fz)) w.heap.size i C 5 fz (heap_alloc_new w _)).trans (hC i)
    rw [this, if_pos hi]
  have HC := Lib.hid hCell
  clear hC hc3 hfz hCell
  go_enter Tryz.func108, Tryz.ntmps108
  go_wp2_with fail
  go_loop [3, 5, 9] (fun x _ i => ∃ (k X : Nat), k ≤ s.size ∧ i = .int .i64 k ∧ x = .int .u32 X ∧ X < 4294967296 ∧ Hid (X = crcState 4294967295 (s.data.toList.take k))) (fun _ _ i => s.size - (intOf i).toNat)
  case atStart => exact ⟨0, 4294967295, by omega, rfl, rfl, by omega, by simp [Hid, crcState]⟩
  case round =>
    obtain ⟨k, X, hk, rfl, rfl, hX, HX⟩ := hrel
    by_cases hlt : k < s.size
    · have hcell := HC.out k hlt
      have HS := Lib.hid (crc_snoc s k hlt)
      generalize s.data.toList.getD k 0 = b at hcell HS
      go_wp2_with fail
      refine (step_any X b _ hX).mono ?_
      rintro e w1 ⟨rfl, rfl⟩
      go_wp2_with fail
      go_round
      case rel => exact ⟨k + 1, crcStep X b.toNat, by omega, by go_num, rfl, Z5h hX b.toNat_lt, by show _ = _; rw [HS.out, HX.out]⟩
      case measure => simp [intOf]; omega
    · obtain rfl : k = s.size := by omega
      have e1 : bits .xor .u32 (X : Int) 4294967295 = ((crcSum s.data.toList : Nat) : Int) := by
        have h1 := Z72 X 4294967295 hX (by decide)
        have h2 : X ^^^ 4294967295 = crcSum s.data.toList := by
          rw [HX.out, List.take_of_length_le (by simp)]; rfl
        rw [h2] at h1
        exact h1
      generalize hZ : crcSum s.data.toList = Z at e1 ⊢
      have HZ := Lib.hid hZ
      clear hZ
      go_wp2_with fail
      go_ret
      exact ⟨Z3j (by rw [HZ.out]), by (repeat (first | with_reducible exact Below.refl _ _ | with_reducible assumption | with_reducible apply Below.drew | with_reducible apply Z09 | (with_reducible refine Z0e ?_ ?_; focus ((try simp); (try omega); done)) | (with_reducible refine Z0f ?_ ?_; focus ((try simp); (try omega); done))))⟩

def sealL (l : List UInt8) : List UInt8 := l ++ le (crcSum l) 4
theorem Z1g (l : List UInt8) : (sealL l).length = l.length + 4 := by simp [sealL, Z0a]

theorem Z81 {w w' : World} {b : Nat} {g g' : Option Nat} (h : Wrote w b g g' w') (hA : ∀ k, g = some k → b ≤ k) (hb : b ≤ w.heap.size) : ∀ k, g' = some k → b ≤ k := h.own_from hb hA

set_option maxHeartbeats 1000000 in
theorem Z5r (s : ByteArray) (w : World) (hs : s.size ≤ 1099511627776) :
    Calls Tryz.prog 76 #[.string s] w fun e w' => e = .returned (.string ⟨(sealL s.data.toList).toArray⟩) ∧ Below w.heap.size w w' := by
  have hsz : s.data.toList.length = s.size := by simp
  have Hsz := Lib.hid hsz
  clear hsz
  go_enter Tryz.func76, Tryz.ntmps76
  go_wp2_with fail
  have h0 : Wr (w.alloc (.cells #[.pointer none, .slice none 0 0] 132)) w.heap.size none [] := Wr.new_ rfl
  have b0 : Below w.heap.size w (w.alloc (.cells #[.pointer none, .slice none 0 0] 132)) := by (repeat (first | with_reducible exact Below.refl _ _ | with_reducible assumption | with_reducible apply Below.drew | with_reducible apply Z09 | (with_reducible refine Z0e ?_ ?_; focus ((try simp); (try omega); done)) | (with_reducible refine Z0f ?_ ?_; focus ((try simp); (try omega); done))))
  refine (text_any w.heap.size none [] s _ h0 (by simp; omega)).mono ?_
  rintro e w1 ⟨rfl, g1, h1, k1⟩
  have r1 := Z81 k1 (fun k e => by cases e) (by simp)
  have b1 := k1.below b0 (by simp) (Nat.le_refl _) (fun k e => by cases e)
  have z1 := b1.size
  clear h0 b0 k1
  go_wp2_with fail
  refine (sum_any s _ (by omega)).mono ?_
  rintro e w2 ⟨rfl, hb2⟩
  have h2 := h1.below hb2
  have b2 : Below w.heap.size w w2 := b1.trans (hb2.mono z1)
  have z2 := b2.size
  clear h1 b1 hb2 z1
  have hlt := crcSum_lt s.data.toList
  generalize hZ : crcSum s.data.toList = Z at hlt ⊢
  have HZ := Lib.hid hZ
  clear hZ
  go_wp2_with fail
  refine (Z7c w.heap.size g1 _ Z 4 _ (by omega) h2 (by rw [List.nil_append, Hsz.out]; omega)).mono ?_
  rintro e w3 ⟨rfl, g3, h3, k3⟩
  have r3 := Z81 k3 r1 z2
  have b3 := k3.below b2 z2 (Nat.le_refl _) r1
  have z3 := b3.size
  clear h2 k3 b2 z2
  have hne : [] ++ s.data.toList ++ le Z (clampSize 4) ≠ [] := by
    intro e
    have := congrArg List.length e
    rw [List.length_append, Z0a, show clampSize 4 = 4 by decide] at this
    simp at this
  have HN := Lib.hid hne
  clear hne
  go_wp2_with fail
  refine (Z3w w.heap.size g3 _ _ h3 HN.out).mono ?_
  rintro e w4 ⟨rfl, h4, k4⟩
  have b4 := k4.below b3 z3 (Nat.le_refl _) r3
  clear h3 h4 k4 b3 z3 HN
  go_wp2_with fail
  go_ret
  exact ⟨by rw [← HZ.out]; rfl, b4⟩

set_option maxHeartbeats 1000000 in
theorem Z5d (s : ByteArray) (w : World) (hs : s.size < 4) :
    Calls Tryz.prog 95 #[.string s] w fun e w' => e = .returned (.tuple #[.string ⟨#[]⟩, .bool false]) ∧ Below w.heap.size w w' := by
  go_enter Tryz.func95, Tryz.ntmps95
  go_wp2_with fail
  go_ret2
  exact ⟨rfl, by (repeat (first | with_reducible exact Below.refl _ _ | with_reducible assumption | with_reducible apply Below.drew | with_reducible apply Z09 | (with_reducible refine Z0e ?_ ?_; focus ((try simp); (try omega); done)) | (with_reducible refine Z0f ?_ ?_; focus ((try simp); (try omega); done))))⟩

theorem Z2d (s : ByteArray) : (⟨s.data.toList.toArray⟩ : ByteArray) = s := by simp
theorem str_ext {q s : ByteArray} (h : q.data.toList = s.data.toList) : q = s := by rw [← Z2d q, h, Z2d]
theorem str_ne {q s : ByteArray} (h : ¬ q = s) : (q.toList == s.toList) = false := by
  rw [beq_eq_false_iff_ne, ByteArray.toList_eq, ByteArray.toList_eq]
  exact fun e => h (str_ext e)
theorem cut_data (s : ByteArray) (n : Nat) (h : n ≤ s.size) : (s.extract 0 n).data.toList = s.data.toList.take n := by
  have := Lib.extract_data s 0 n
  rw [this, List.drop_zero, Nat.sub_zero]
theorem cut_eq (s : ByteArray) (n : Nat) (h : n ≤ s.size) : s.extract 0 n = ⟨(s.data.toList.take n).toArray⟩ := by
  rw [← cut_data s n h, Z2d]

theorem Z84 (s q : ByteArray) (w : World) (hs : 4 ≤ s.size) (hs2 : s.size ≤ 1099511627776) (h : (⟨(sealL (s.data.toList.take (s.size - 4))).toArray⟩ : ByteArray) = q) :
    Calls Tryz.prog 76 #[.string (s.extract 0 (s.size - 4))] w fun e w' => e = .returned (.string q) ∧ Below w.heap.size w w' := by
  have := Z5r (s.extract 0 (s.size - 4)) w (by rw [ByteArray.size_extract]; omega)
  rw [cut_data s _ (by omega), h] at this
  exact this

set_option maxHeartbeats 1000000 in
theorem Z88 (s : ByteArray) (w : World) (hs : 4 ≤ s.size) (hs2 : s.size ≤ 1099511627776) (h : sealL (s.data.toList.take (s.size - 4)) = s.data.toList) :
    Calls Tryz.prog 95 #[.string s] w fun e w' => e = .returned (.tuple #[.string ⟨(s.data.toList.take (s.size - 4)).toArray⟩, .bool true]) ∧ Below w.heap.size w w' := by
  have H := Lib.hid (fun W => Z84 s s W hs hs2 (by rw [h, Z2d]))
  clear h
  go_enter Tryz.func95, Tryz.ntmps95
  go_wp2_with fail
  refine (H.out _).mono ?_
  rintro e w1 ⟨rfl, hb⟩
  go_wp2_with fail
  go_ret2
  exact ⟨by rw [← cut_eq s (s.size - 4) (by omega)]; rfl, hb⟩

set_option maxHeartbeats 1000000 in
theorem open_no (s : ByteArray) (w : World) (hs : 4 ≤ s.size) (hs2 : s.size ≤ 1099511627776) (h : ¬ sealL (s.data.toList.take (s.size - 4)) = s.data.toList) :
    Calls Tryz.prog 95 #[.string s] w fun e w' => e = .returned (.tuple #[.string ⟨#[]⟩, .bool false]) ∧ Below w.heap.size w w' := by
  obtain ⟨q, hq⟩ : ∃ q : ByteArray, (⟨(sealL (s.data.toList.take (s.size - 4))).toArray⟩ : ByteArray) = q := ⟨_, rfl⟩
  have hne : (q.toList == s.toList) = false := str_ne (fun e => h (by rw [e] at hq; have := congrArg (fun x : ByteArray => x.data.toList) hq; simpa using this))
  have H := Lib.hid (fun W => Z84 s q W hs hs2 hq)
  clear h hq
  go_enter Tryz.func95, Tryz.ntmps95
  go_wp2_with fail
  refine (H.out _).mono ?_
  rintro e w1 ⟨rfl, hb⟩
  go_wp2_with fail
  go_ret2
  exact ⟨rfl, hb⟩
end Go.Proofs.YtakkhglbdljfiaaGreatDoor

/- The walks of octet.Reader: Of, Take, Get, End. -/
namespace Go.Proofs.YtakkhglbdljfiaaGreatDoor
set_option linter.unusedVariables false
set_option linter.unusedSimpArgs false
open Go.RowKit

/-- A reader's cells: what is left, and whether there were too few bytes. -/
def rdr (s : ByteArray) (short : Bool) : Array Value := #[.string s, .bool short]

theorem of_any (s : ByteArray) (w : World) : Calls Tryz.prog 96 #[.string s] w fun e w' => e = .returned (.pointer (some ⟨w.heap.size, 0, none⟩)) ∧ Upd w w.heap.size 170 (rdr s false) w' := by
  go_enter Tryz.func96, Tryz.ntmps96
  go_wp2
  go_ret
  exact ⟨rfl, Blk.new _ _ _, Z3k (World.grownBy.refl w _) _⟩

/-- The next bytes: with enough of them. -/
theorem take_yes (g : Nat) (s : ByteArray) (short : Bool) (n : Nat) (w : World) (h : Blk w g 170 (rdr s short)) (hn : n ≤ s.size) (hs : s.size ≤ 9223372036854775807) :
    Calls Tryz.prog 117 #[.pointer (some ⟨g, 0, none⟩), .int .i64 n] w fun e w' => e = .returned (.string (s.extract 0 n)) ∧ Upd w g 170 (rdr (s.extract n s.size) short) w' := by
  have c0 : w.cell? ⟨g, 0, none⟩ = some (.string s) := h.cell 0
  have c1 : w.cell? ⟨g, 1, none⟩ = some (.bool short) := h.cell 1
  have f0 : w.frozen? ⟨g, 0, none⟩ = false := h.frozen 0
  have f1 : w.frozen? ⟨g, 1, none⟩ = false := h.frozen 1
  have H := Lib.hid h
  clear h
  go_enter Tryz.func117, Tryz.ntmps117
  go_wp2
  go_ret
  exact ⟨rfl, (Upd.refl H.out).set 0 _⟩
theorem take_short (g : Nat) (s : ByteArray) (short : Bool) (n : Nat) (w : World) (h : Blk w g 170 (rdr s short)) (hn : s.size < n) (hn2 : n ≤ 9223372036854775807) :
    Calls Tryz.prog 117 #[.pointer (some ⟨g, 0, none⟩), .int .i64 n] w fun e w' => e = .returned (.string ⟨#[]⟩) ∧ Upd w g 170 (rdr ⟨#[]⟩ true) w' := by
  have c0 : w.cell? ⟨g, 0, none⟩ = some (.string s) := h.cell 0
  have c1 : w.cell? ⟨g, 1, none⟩ = some (.bool short) := h.cell 1
  have f0 : w.frozen? ⟨g, 0, none⟩ = false := h.frozen 0
  have f1 : w.frozen? ⟨g, 1, none⟩ = false := h.frozen 1
  have H := Lib.hid h
  clear h
  go_enter Tryz.func117, Tryz.ntmps117
  go_wp2
  go_ret
  exact ⟨rfl, ((Upd.refl H.out).set 0 _).set 1 _⟩
theorem end_yes (g : Nat) (s : ByteArray) (w : World) (h : Blk w g 170 (rdr s false)) (h0 : s.size = 0) :
    Calls Tryz.prog 119 #[.pointer (some ⟨g, 0, none⟩)] w fun e w' => e = .returned (.int .i64 0) ∧ w = w' := by
  have c0 : w.cell? ⟨g, 0, none⟩ = some (.string s) := h.cell 0
  have c1 : w.cell? ⟨g, 1, none⟩ = some (.bool false) := h.cell 1
  clear h
  have hz : s.toList.isEmpty = true := by rw [ByteArray.toList_eq]; simp; exact Array.eq_empty_of_size_eq_zero h0
  go_enter Tryz.func119, Tryz.ntmps119
  go_wp2
  go_ret
  exact ⟨rfl, rfl⟩
theorem end_no (g : Nat) (s : ByteArray) (short : Bool) (w : World) (h : Blk w g 170 (rdr s short)) (h0 : short = false → s.size ≠ 0) :
    Calls Tryz.prog 119 #[.pointer (some ⟨g, 0, none⟩)] w fun e w' => e = .returned (.int .i64 3) ∧ w = w' := by
  have c0 : w.cell? ⟨g, 0, none⟩ = some (.string s) := h.cell 0
  have c1 : w.cell? ⟨g, 1, none⟩ = some (.bool short) := h.cell 1
  clear h
  cases short
  · have hz : s.toList.isEmpty = false := by rw [ByteArray.toList_eq]; simp; exact fun e => h0 rfl (by rw [ByteArray.size, e]; rfl)
    clear h0
    go_enter Tryz.func119, Tryz.ntmps119
    go_wp2
    go_ret
    exact ⟨rfl, rfl⟩
  · clear h0
    go_enter Tryz.func119, Tryz.ntmps119
    go_wp2
    go_ret
    exact ⟨rfl, rfl⟩
end Go.Proofs.YtakkhglbdljfiaaGreatDoor
