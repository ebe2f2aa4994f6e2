/- diff: Size, Good. Printed by gen_diffgood.py. -/
import Derived.Test.YtbfgacmfjfbooaaKShipExact06
import Derived.Test.YtbfgacmfjfbooaaKShipExact03
namespace Go.Proofs.Ytbfgacmfjfbooaa
attribute [local simp] BigFrame.eval_const BigFrame.eval_global BigFrame.eval_func
set_option linter.unusedVariables false
set_option linter.unusedSimpArgs false
open Go.RowKit

def xC (x : Nat × ByteArray) : List Value := [.int .i64 (x.1 : Int), .string x.2]
theorem Xs.rows {B : Nat} {v : Value} {L : List (Nat × ByteArray)} {w : World} (h : Xs B v L w) : ∃ A cap, v = .slice A L.length cap ∧ L.length ≤ cap ∧ cap ≤ maxLen ∧ Row w A 2 xC L := by
  have hR : ORow w.heap.size w [] 107 2 v L.length (L.flatMap xC) w ∨ True := .inr trivial
  clear hR
  rcases (World.ownsRowF_of h).2 with ⟨rfl, h0⟩ | ⟨g, cap, cur, fz, rfl, hb, hg, hfz, hcap, hmax, hcs, ht⟩
  · refine ⟨none, 0, by rw [h0], by omega, by decide, fun i x hx => ?_⟩
    have : L = [] := List.length_eq_zero_iff.1 h0
    subst this
    simp at hx
  · refine ⟨some ⟨g, 0, none⟩, cap, rfl, hcap, hmax, fun i x hx => ⟨g, 0, rfl, (Array.getElem?_eq_some_iff.1 hg).1, fun j u hu => ?_⟩⟩
    have := (World.ownsRowF_of h).cells (g := g) rfl (i * 2 + j) u (Z31 (enc := xC) (c := 2) (fun _ => rfl) L i x j u hx hu)
    have hadd : (⟨g, 0, none⟩ : Addr).add (i * 2 + j) = ⟨g, i * 2 + j, none⟩ := by unfold Addr.add; split <;> simp_all
    rw [hadd] at this
    rw [Nat.zero_add]
    exact this
def atX (L : List (Nat × ByteArray)) (i : Nat) : Nat := (L.getD i (0, ⟨#[]⟩)).1
def datX (L : List (Nat × ByteArray)) (i : Nat) : ByteArray := (L.getD i (0, ⟨#[]⟩)).2
theorem Row.x_in {w w' : World} {A : Option Addr} {L : List (Nat × ByteArray)} (h : Row w A 2 xC L) (hb : Below w.heap.size w w') {j : Nat} (hj : j < L.length) :
    ∃ b o, A = some ⟨b, o, none⟩ ∧ b < w.heap.size := by
  obtain ⟨b, o, hA, hlt, _⟩ := h.in_ hb hj
  exact ⟨b, o, hA, hlt⟩
theorem Row.x_at {w w' : World} {b o : Nat} {L : List (Nat × ByteArray)} (h : Row w (some ⟨b, o, none⟩) 2 xC L) (hb : Below w.heap.size w w') {j : Nat} (hj : j < L.length) :
    w'.cell? ⟨b, o + j * 2, none⟩ = some (.int .i64 (atX L j : Nat)) ∧ w'.cell? ⟨b, o + j * 2 + 1, none⟩ = some (.string (datX L j)) := by
  obtain ⟨b', o', he, _, hc⟩ := h.in_ hb hj
  cases he
  have e : L[j] = (atX L j, datX L j) := by simp [atX, datX, List.getD, hj]
  rw [e] at hc
  exact ⟨hc 0 _ rfl, hc 1 _ rfl⟩
theorem Row.extx {w w' : World} {A : Option Addr} {L : List (Nat × ByteArray)} (h : Row w A 2 xC L) (hb : Ext w w') : Row w' A 2 xC L := h.below hb

/-- An extent may stand there. -/
def okX (L : List (Nat × ByteArray)) (i : Nat) : Prop := 0 < (datX L i).size ∧ (datX L i).size % 16 = 0 ∧ (i = 0 ∨ atX L (i - 1) + (datX L (i - 1)).size / 16 < atX L i)
open Classical in
noncomputable def goodX (L : List (Nat × ByteArray)) : Bool := decide (∀ i, i < L.length → okX L i)
theorem Z74 {d : ByteArray} (h : 0 < d.size) : (d.toList == []) = false := by
  rw [beq_eq_false_iff_ne, ByteArray.toList_eq]
  intro e
  have : d.data.toList.length = d.size := by simp
  rw [e] at this
  simp at this
  omega
theorem Z5m {d : ByteArray} (h : d.size = 0) : (d.toList == []) = true := by
  rw [beq_iff_eq, ByteArray.toList_eq]
  have : d.data.toList.length = d.size := by simp
  exact List.length_eq_zero_iff.1 (by omega)
set_option maxRecDepth 100000 in
set_option maxHeartbeats 8000000 in
theorem Z3j (A : Option Addr) (len cap : Nat) (L : List (Nat × ByteArray)) (w : World) (hlen : L.length = len) (hm : len ≤ 1000000) (hrow : Row w A 2 xC L) (hx : ∀ x ∈ L, x.1 ≤ 1099511627776 ∧ x.2.size ≤ 1099511627776) :
    Calls Try.prog 55 #[.slice A len cap] w fun e w' => e = .returned (.bool (goodX L)) ∧ Ext w w' := by
  obtain ⟨GB, hGB⟩ : ∃ g, goodX L = g := ⟨_, rfl⟩
  have hgd : GB = true ↔ ∀ i, i < len → okX L i := by rw [← hGB, ← hlen]; unfold goodX; simp
  rw [hGB]
  have HG := Lib.hid hgd
  have hxx : ∀ j, j < L.length → atX L j ≤ 1099511627776 ∧ (datX L j).size ≤ 1099511627776 := fun j hj => by
    have := hx _ (List.getElem_mem hj)
    simpa [atX, datX, List.getD, hj] using this
  clear hgd hGB hx
  go_enter Try.func55, Try.ntmps55
  go_upto_region 2 with fail
  go_loopw [3, 4, 7] (fun _ _ i wr => ∃ j : Nat, i = .int .i64 j ∧ j ≤ len ∧ Ext w wr ∧ Hid (∀ i, i < j → okX L i)) (fun _ _ i _ => len - (intOf i).toNat)
  case atStart => exact ⟨0, rfl, by omega, Ext.refl _, fun i hi => absurd hi (by omega)⟩
  case round =>
    obtain ⟨j, rfl, hj, hEx0, HJ⟩ := hrel
    by_cases hlt : j < len
    · have hjx : j < L.length := by omega
      obtain ⟨b0, o0, rfl, hlt0⟩ := hrow.x_in hEx0 hjx
      obtain ⟨q0, q1⟩ := hrow.x_at hEx0 hjx
      have hstep : okX L j → ∀ i, i < j + 1 → okX L i := fun h i hi => by
        by_cases e : i = j
        · subst e; exact h
        · exact HJ.out i (by omega)
      have HS := Lib.hid hstep
      have hbad : ¬ okX L j → GB = false := fun h => by
        cases GB with
        | false => rfl
        | true => exact absurd (HG.out.1 rfl j (by omega)) h
      have HB := Lib.hid hbad
      obtain ⟨hka, hkd⟩ := hxx j hjx
      obtain ⟨K, hK⟩ : ∃ K, atX L j = K := ⟨_, rfl⟩
      obtain ⟨D, hD⟩ : ∃ D, datX L j = D := ⟨_, rfl⟩
      rw [hK] at q0 hka
      rw [hD] at q1 hkd
      have HK := Lib.hid hK
      have HD := Lib.hid hD
      have hE1 := hEx0.trans (Ext.alloc wr (.cells #[.int .i64 K, .string D] 107))
      have HX := Lib.hid (Blk.new wr 107 #[.int .i64 K, .string D])
      have hiw := fun W => (Z0o D W (by omega)).mono (fun e w' (h : _ ∧ W = w') => (⟨h.1, Z65 h.2⟩ : e = .returned (.bool (decide (D.size % 16 = 0))) ∧ Ext W w'))
      have dneg : decide ((K : Int) < 0) = false := by rw [decide_eq_false_iff_not]; omega
      clear hstep hbad hK hD
      cases j with
      | zero =>
        rw [Nat.zero_mul, Nat.add_zero] at q0 q1
        go_upto_region 4 with fail
        generalize wr.alloc (.cells #[.int .i64 K, .string D] 107) = w1 at HX hE1 ⊢
        clear q0 q1
        by_cases he : D.size = 0
        · have d1 := Z5m he
          have HW := Lib.hid hiw
          have HBAD : ¬ okX L 0 := fun h => by have h1 := h.1; rw [HD.out] at h1; omega
          clear hiw he
          refine Z06 (R := Ext) (w0 := w1) [[], [0], [0, 1], [0, 1, 2], [0, 1, 2, 3], [0, 1, 2, 3, 4], [0, 1, 2, 3, 4, 5], [0, 1, 2, 3, 4, 5, 6], [0, 1, 2, 3, 4, 5, 6, 7], [0, 1, 2, 3, 4, 5, 6, 7, 8], [0, 1, 2, 3, 4, 5, 6, 7, 8, 9], [0, 1, 2, 3, 4, 5, 6, 7, 8, 9, 10], [0, 1, 2, 3, 4, 5, 6, 7, 8, 9, 10, 11], [0, 1, 2, 3, 4, 5, 6, 7, 8, 9, 10, 11, 12], [0, 1, 2, 3, 4, 5, 6, 7, 8, 9, 10, 11, 12, 13], [0, 1, 2, 3, 4, 5, 6, 7, 8, 9, 10, 11, 12, 13, 14], [0, 1, 2, 3, 4, 5, 6, 7, 8, 9, 10, 11, 12, 13, 14, 15], [0, 1, 2, 3, 4, 5, 6, 7, 8, 9, 10, 11, 12, 13, 14, 15, 16], [0, 1, 2, 3, 4, 5, 6, 7, 8, 9, 10, 11, 12, 13, 14, 15, 16, 17], [0, 1, 2, 3, 4, 5, 6, 7, 8, 9, 10, 11, 12, 13, 14, 15, 16, 17, 18], [0, 1, 2, 3, 4, 5, 6, 7, 8, 9, 10, 11, 12, 13, 14, 15, 16, 17], [0, 1, 2, 3, 4, 5, 6, 7, 8, 9, 10, 11, 12, 13, 14, 15, 16, 17], [0, 1, 2, 3, 4, 5, 6, 7, 8, 9, 10, 11, 12, 13, 14, 15, 16, 17, 21], [0, 1, 2, 3, 4, 5, 6, 7, 8, 9, 10, 11, 12, 13, 14, 15, 16, 17, 20, 21, 22], [0, 1, 2, 3, 4, 5, 6, 7, 8, 9, 10, 11, 12, 13, 14, 15, 16, 17, 20, 21, 22, 23], [0, 1, 2, 3, 4, 5, 6, 7, 8, 9, 10, 11, 12, 13, 14, 15, 16, 17, 20, 21, 22, 23, 24], [0, 1, 2, 3, 4, 5, 6, 7, 8, 9, 10, 11, 12, 13, 14, 15, 16, 17, 18, 19, 20, 21, 22, 23, 24, 25], [0, 1, 2, 3, 4, 5, 6, 7, 8, 9, 10, 11, 12, 13, 14, 15, 16, 17], [0, 1, 2, 3, 4, 5, 6, 7, 8, 9, 10, 11, 12, 13, 14, 15, 16, 17], [0, 1, 2, 3, 4, 5, 6, 7, 8, 9, 10, 11, 12, 13, 14, 15, 16, 17, 28], [0, 1, 2, 3, 4, 5, 6, 7, 8, 9, 10, 11, 12, 13, 14, 15, 16, 17, 27, 28, 29], [0, 1, 2, 3, 4, 5, 6, 7, 8, 9, 10, 11, 12, 13, 14, 15, 16, 17, 27, 28, 29, 30], [0, 1, 2, 3, 4, 5, 6, 7, 8, 9, 10, 11, 12, 13, 14, 15, 16, 17, 27, 28, 29, 30, 31], [0, 1, 2, 3, 4, 5, 6, 7, 8, 9, 10, 11, 12, 13, 14, 15, 16, 17, 18, 19, 20, 21, 22, 23, 24, 25, 26, 27, 28, 29, 30, 31, 32], [0, 1, 2, 3, 4, 5, 6, 7, 8, 9, 10, 11, 12, 13, 14, 15, 16, 17, 18, 19, 20, 21, 22, 23, 24, 25, 26, 27, 28, 29, 30, 31, 32, 33], [0, 1, 2, 3, 4, 5, 6, 7, 8, 9, 10, 11, 12, 13, 14, 15, 16, 17, 18, 19, 20, 21, 22, 23, 24, 25, 26, 27, 28, 29, 30, 31, 32, 33, 34]] [12, 13, 14, 15, 16, 17, 18, 19, 20, 21, 22, 23, 24, 25, 26, 27, 28, 29, 30, 31, 32, 33, 34, 35, 36, 37, 38, 39, 40, 41, 42, 43, 44, 45, 46, 47] Ext.refl (fun _ _ _ => Ext.trans) (Ext.drew _) (by kernel_rfl) ?_
          apply Build.det 12 Ext.refl (by rfl) (by rfl) rfl
          case h =>
            intro ax wx hE hR hF
            have e4 : ax.eval (.tmp 4) = .pointer (some ⟨wr.heap.size, 0, none⟩) := hE.eval 4 (by rfl) rfl
            simp [go_sem, ↓IntWalk.iteOmega, ev e4, dneg, d1]
            with_reducible rfl
          apply Build.det 13 Ext.refl (by rfl) (by rfl) rfl
          case h =>
            intro ax wx hE hR hF
            have e12 := hF 0 (det 12 _) (by decide) (.head _)
            have hX2 := HX.out.ext hR; have q0 := hX2.cell 0; have q1 := hX2.cell 1
            simp [go_sem, ↓IntWalk.iteOmega, ev e12, dneg, d1, q0, q1]
            with_reducible rfl
          apply Build.det 14 Ext.refl (by rfl) (by rfl) rfl
          case h =>
            intro ax wx hE hR hF
            have e13 := hF 1 (det 13 _) (by decide) (.head _)
            simp [go_sem, ↓IntWalk.iteOmega, ev e13, dneg, d1]
            with_reducible rfl
          apply Build.det 15 Ext.refl (by rfl) (by rfl) rfl
          case h =>
            intro ax wx hE hR hF
            have e14 := hF 2 (det 14 _) (by decide) (.head _)
            simp [go_sem, ↓IntWalk.iteOmega, ev e14, dneg, d1]
            with_reducible rfl
          apply Build.detg 16 Ext.refl (by rfl) (by rfl) rfl rfl
          case h =>
            intro ax wx hE hR hF
            have e4 : ax.eval (.tmp 4) = .pointer (some ⟨wr.heap.size, 0, none⟩) := hE.eval 4 (by rfl) rfl
            have e15 := hF 3 (det 15 _) (by decide) (.head _)
            refine ⟨e15, ?_⟩
            simp [go_sem, ↓IntWalk.iteOmega, ev e4, ev e15, dneg, d1]
            with_reducible rfl
          apply Build.detg 17 Ext.refl (by rfl) (by rfl) rfl rfl
          case h =>
            intro ax wx hE hR hF
            have e15 := hF 3 (det 15 _) (by decide) (.tail _ (.head _))
            have e16 := hF 4 (det 16 _) (by decide) (.head _)
            have hX2 := HX.out.ext hR; have q0 := hX2.cell 0; have q1 := hX2.cell 1
            refine ⟨e15, ?_⟩
            simp [go_sem, ↓IntWalk.iteOmega, ev e15, ev e16, dneg, d1, q0, q1]
            with_reducible rfl
          apply Build.detg 18 Ext.refl (by rfl) (by rfl) rfl rfl
          case h =>
            intro ax wx hE hR hF
            have e15 := hF 3 (det 15 _) (by decide) (.tail _ (.tail _ (.head _)))
            have e17 := hF 5 (det 17 _) (by decide) (.head _)
            refine ⟨e15, ?_⟩
            simp [go_sem, ↓IntWalk.iteOmega, ev e15, ev e17, dneg, d1]
            with_reducible rfl
          apply Build.det 19 Ext.refl (by rfl) (by rfl) rfl
          case h =>
            intro ax wx hE hR hF
            have e15 := hF 3 (det 15 _) (by decide) (.tail _ (.tail _ (.tail _ (.head _))))
            have e18 := hF 6 (det 18 _) (by decide) (.head _)
            simp [go_sem, ↓IntWalk.iteOmega, ev e15, ev e18, dneg, d1]
            with_reducible rfl
          apply Build.det 20 Ext.refl (by rfl) (by rfl) rfl
          case h =>
            intro ax wx hE hR hF
            have e19 := hF 7 (det 19 _) (by decide) (.head _)
            simp [go_sem, ↓IntWalk.iteOmega, ev e19, dneg, d1]
            with_reducible rfl
          refine Build.skip 21 (by rfl) (by rfl) rfl rfl ?_ ?_
          · intro ax wx hE hR hF
            have e20 := hF 8 (det 20 _) (by decide) (.head _)
            exact e20
          refine Build.skip 22 (by rfl) (by rfl) rfl rfl ?_ ?_
          · intro ax wx hE hR hF
            have e20 := hF 8 (det 20 _) (by decide) (.tail _ (.head _))
            exact e20
          refine Build.skip 23 (by rfl) (by rfl) rfl rfl ?_ ?_
          · intro ax wx hE hR hF
            have e20 := hF 8 (det 20 _) (by decide) (.tail _ (.tail _ (.head _)))
            exact e20
          refine Build.skip 24 (by rfl) (by rfl) rfl rfl ?_ ?_
          · intro ax wx hE hR hF
            have e20 := hF 8 (det 20 _) (by decide) (.tail _ (.tail _ (.tail _ (.head _))))
            exact e20
          apply Build.det 25 Ext.refl (by rfl) (by rfl) rfl
          case h =>
            intro ax wx hE hR hF
            have e20 := hF 8 (det 20 _) (by decide) (mem4 (.head _))
            have e24 := hF 12 (det 24 _) (by decide) (.head _)
            simp [go_sem, ↓IntWalk.iteOmega, ev e20, ev e24, dneg, d1]
            with_reducible rfl
          apply Build.det 26 Ext.refl (by rfl) (by rfl) rfl
          case h =>
            intro ax wx hE hR hF
            have e25 := hF 13 (det 25 _) (by decide) (.head _)
            simp [go_sem, ↓IntWalk.iteOmega, ev e25, dneg, d1]
            with_reducible rfl
          refine Build.skip 27 (by rfl) (by rfl) rfl rfl ?_ ?_
          · intro ax wx hE hR hF
            have e26 := hF 14 (det 26 _) (by decide) (.head _)
            exact e26
          refine Build.skip 28 (by rfl) (by rfl) rfl rfl ?_ ?_
          · intro ax wx hE hR hF
            have e26 := hF 14 (det 26 _) (by decide) (.tail _ (.head _))
            exact e26
          refine Build.skip 29 (by rfl) (by rfl) rfl rfl ?_ ?_
          · intro ax wx hE hR hF
            have e26 := hF 14 (det 26 _) (by decide) (.tail _ (.tail _ (.head _)))
            exact e26
          refine Build.skipu 30 (by rfl) (by rfl) rfl rfl ?_ ?_
          · intro ax wx hE hR hF
            have e29 := hF 17 (det 29 _) (by decide) (.head _)
            exact e29
          refine Build.skipu 31 (by rfl) (by rfl) rfl rfl ?_ ?_
          · intro ax wx hE hR hF
            have e29 := hF 17 (det 29 _) (by decide) (.tail _ (.head _))
            exact e29
          refine Build.skipu 32 (by rfl) (by rfl) rfl rfl ?_ ?_
          · intro ax wx hE hR hF
            have e29 := hF 17 (det 29 _) (by decide) (.tail _ (.tail _ (.head _)))
            exact e29
          refine Build.skipu 33 (by rfl) (by rfl) rfl rfl ?_ ?_
          · intro ax wx hE hR hF
            have e29 := hF 17 (det 29 _) (by decide) (.tail _ (.tail _ (.tail _ (.head _))))
            exact e29
          refine Build.skipu 34 (by rfl) (by rfl) rfl rfl ?_ ?_
          · intro ax wx hE hR hF
            have e29 := hF 17 (det 29 _) (by decide) (mem4 (.head _))
            exact e29
          refine Build.skipu 35 (by rfl) (by rfl) rfl rfl ?_ ?_
          · intro ax wx hE hR hF
            have e29 := hF 17 (det 29 _) (by decide) (mem4 (.tail _ (.head _)))
            exact e29
          refine Build.skipu 36 (by rfl) (by rfl) rfl rfl ?_ ?_
          · intro ax wx hE hR hF
            have e29 := hF 17 (det 29 _) (by decide) (mem4 (.tail _ (.tail _ (.head _))))
            exact e29
          refine Build.skipu 37 (by rfl) (by rfl) rfl rfl ?_ ?_
          · intro ax wx hE hR hF
            have e29 := hF 17 (det 29 _) (by decide) (mem4 (.tail _ (.tail _ (.tail _ (.head _)))))
            exact e29
          refine Build.skipu 38 (by rfl) (by rfl) rfl rfl ?_ ?_
          · intro ax wx hE hR hF
            have e29 := hF 17 (det 29 _) (by decide) (mem4 (mem4 (.head _)))
            exact e29
          refine Build.skipu 39 (by rfl) (by rfl) rfl rfl ?_ ?_
          · intro ax wx hE hR hF
            have e29 := hF 17 (det 29 _) (by decide) (mem4 (mem4 (.tail _ (.head _))))
            exact e29
          refine Build.skipu 40 (by rfl) (by rfl) rfl rfl ?_ ?_
          · intro ax wx hE hR hF
            have e29 := hF 17 (det 29 _) (by decide) (mem4 (mem4 (.tail _ (.tail _ (.head _)))))
            exact e29
          refine Build.skipu 41 (by rfl) (by rfl) rfl rfl ?_ ?_
          · intro ax wx hE hR hF
            have e29 := hF 17 (det 29 _) (by decide) (mem4 (mem4 (.tail _ (.tail _ (.tail _ (.head _))))))
            exact e29
          refine Build.skipu 42 (by rfl) (by rfl) rfl rfl ?_ ?_
          · intro ax wx hE hR hF
            have e29 := hF 17 (det 29 _) (by decide) (mem4 (mem4 (mem4 (.head _))))
            exact e29
          refine Build.skipu 43 (by rfl) (by rfl) rfl rfl ?_ ?_
          · intro ax wx hE hR hF
            have e29 := hF 17 (det 29 _) (by decide) (mem4 (mem4 (mem4 (.tail _ (.head _)))))
            exact e29
          refine Build.skipu 44 (by rfl) (by rfl) rfl rfl ?_ ?_
          · intro ax wx hE hR hF
            have e29 := hF 17 (det 29 _) (by decide) (mem4 (mem4 (mem4 (.tail _ (.tail _ (.head _))))))
            exact e29
          refine Build.skipu 45 (by rfl) (by rfl) rfl rfl ?_ ?_
          · intro ax wx hE hR hF
            have e29 := hF 17 (det 29 _) (by decide) (mem4 (mem4 (mem4 (.tail _ (.tail _ (.tail _ (.head _)))))))
            exact e29
          refine Build.skip 46 (by rfl) (by rfl) rfl rfl ?_ ?_
          · intro ax wx hE hR hF
            have e26 := hF 14 (det 26 _) (by decide) (mem16 (.tail _ (.tail _ (.tail _ (.head _)))))
            exact e26
          apply Build.det 47 Ext.refl (by rfl) (by rfl) rfl
          case h =>
            intro ax wx hE hR hF
            have e26 := hF 14 (det 26 _) (by decide) (mem16 (mem4 (.head _)))
            have e46 := hF 34 (det 46 _) (by decide) (.head _)
            simp [go_sem, ↓IntWalk.iteOmega, ev e26, ev e46, dneg, d1]
            with_reducible rfl
          apply Build.stop
          refine ⟨by kernel_rfl, .inl ⟨rfl, ?_⟩⟩
          intro ax w2 hE R2 hF
          have e12 := hF 0 (det 12 _) (mem16 (mem16 (.tail _ (.tail _ (.tail _ (.head _))))))
          have e13 := hF 1 (det 13 _) (mem16 (mem16 (.tail _ (.tail _ (.head _)))))
          have e14 := hF 2 (det 14 _) (mem16 (mem16 (.tail _ (.head _))))
          have e15 := hF 3 (det 15 _) (mem16 (mem16 (.head _)))
          have e16 := hF 4 (det 16 _) (mem16 (mem4 (mem4 (mem4 (.tail _ (.tail _ (.tail _ (.head _))))))))
          have e17 := hF 5 (det 17 _) (mem16 (mem4 (mem4 (mem4 (.tail _ (.tail _ (.head _)))))))
          have e18 := hF 6 (det 18 _) (mem16 (mem4 (mem4 (mem4 (.tail _ (.head _))))))
          have e19 := hF 7 (det 19 _) (mem16 (mem4 (mem4 (mem4 (.head _)))))
          have e20 := hF 8 (det 20 _) (mem16 (mem4 (mem4 (.tail _ (.tail _ (.tail _ (.head _)))))))
          have e21 := hF 9 (det 21 _) (mem16 (mem4 (mem4 (.tail _ (.tail _ (.head _))))))
          have e22 := hF 10 (det 22 _) (mem16 (mem4 (mem4 (.tail _ (.head _)))))
          have e23 := hF 11 (det 23 _) (mem16 (mem4 (mem4 (.head _))))
          have e24 := hF 12 (det 24 _) (mem16 (mem4 (.tail _ (.tail _ (.tail _ (.head _))))))
          have e25 := hF 13 (det 25 _) (mem16 (mem4 (.tail _ (.tail _ (.head _)))))
          have e26 := hF 14 (det 26 _) (mem16 (mem4 (.tail _ (.head _))))
          have e27 := hF 15 (det 27 _) (mem16 (mem4 (.head _)))
          have e28 := hF 16 (det 28 _) (mem16 (.tail _ (.tail _ (.tail _ (.head _)))))
          have e29 := hF 17 (det 29 _) (mem16 (.tail _ (.tail _ (.head _))))
          have e30 := hF 18 (det 30 _) (mem16 (.tail _ (.head _)))
          have e31 := hF 19 (det 31 _) (mem16 (.head _))
          have e32 := hF 20 (det 32 _) (mem4 (mem4 (mem4 (.tail _ (.tail _ (.tail _ (.head _)))))))
          have e33 := hF 21 (det 33 _) (mem4 (mem4 (mem4 (.tail _ (.tail _ (.head _))))))
          have e34 := hF 22 (det 34 _) (mem4 (mem4 (mem4 (.tail _ (.head _)))))
          have e35 := hF 23 (det 35 _) (mem4 (mem4 (mem4 (.head _))))
          have e36 := hF 24 (det 36 _) (mem4 (mem4 (.tail _ (.tail _ (.tail _ (.head _))))))
          have e37 := hF 25 (det 37 _) (mem4 (mem4 (.tail _ (.tail _ (.head _)))))
          have e38 := hF 26 (det 38 _) (mem4 (mem4 (.tail _ (.head _))))
          have e39 := hF 27 (det 39 _) (mem4 (mem4 (.head _)))
          have e40 := hF 28 (det 40 _) (mem4 (.tail _ (.tail _ (.tail _ (.head _)))))
          have e41 := hF 29 (det 41 _) (mem4 (.tail _ (.tail _ (.head _))))
          have e42 := hF 30 (det 42 _) (mem4 (.tail _ (.head _)))
          have e43 := hF 31 (det 43 _) (mem4 (.head _))
          have e44 := hF 32 (det 44 _) (.tail _ (.tail _ (.tail _ (.head _))))
          have e45 := hF 33 (det 45 _) (.tail _ (.tail _ (.head _)))
          have e46 := hF 34 (det 46 _) (.tail _ (.head _))
          have e47 := hF 35 (det 47 _) (.head _)
          rw [AllEq.frame (D := [12, 13, 14, 15, 16, 17, 18, 19, 20, 21, 22, 23, 24, 25, 26, 27, 28, 29, 30, 31, 32, 33, 34, 35, 36, 37, 38, 39, 40, 41, 42, 43, 44, 45, 46, 47]) (AllEq.cons e12 (AllEq.cons e13 (AllEq.cons e14 (AllEq.cons e15 (AllEq.cons e16 (AllEq.cons e17 (AllEq.cons e18 (AllEq.cons e19 (AllEq.cons e20 (AllEq.cons e21 (AllEq.cons e22 (AllEq.cons e23 (AllEq.cons e24 (AllEq.cons e25 (AllEq.cons e26 (AllEq.cons e27 (AllEq.cons e28 (AllEq.cons e29 (AllEq.cons e30 (AllEq.cons e31 (AllEq.cons e32 (AllEq.cons e33 (AllEq.cons e34 (AllEq.cons e35 (AllEq.cons e36 (AllEq.cons e37 (AllEq.cons e38 (AllEq.cons e39 (AllEq.cons e40 (AllEq.cons e41 (AllEq.cons e42 (AllEq.cons e43 (AllEq.cons e44 (AllEq.cons e45 (AllEq.cons e46 (AllEq.cons e47 (AllEq.nil))))))))))))))))))))))))))))))))))))) hE rfl]
          clear hF hE e12 e13 e14 e15 e16 e17 e18 e19 e20 e21 e22 e23 e24 e25 e26 e27 e28 e29 e30 e31 e32 e33 e34 e35 e36 e37 e38 e39 e40 e41 e42 e43 e44 e45 e46 e47
          simp only [List.foldl_cons, List.foldl_nil, Act.put, List.setIfInBounds_toArray, List.set_cons_succ, List.set_cons_zero]
          have hEx := hE1.trans R2
          have hG : Hid (GB = false) := HB.out HBAD
          go_wp2_with fail
          go_ret
          exact ⟨by rw [hG.out] <;> rfl, hEx⟩
        · have d1 := Z74 (show 0 < D.size by omega)
          by_cases h16 : D.size % 16 = 0
          · rw [decide_eq_true h16] at hiw
            have HW := Lib.hid hiw
            have HOK : okX L 0 := ⟨by rw [HD.out]; omega, by rw [HD.out]; exact h16, .inl rfl⟩
            clear hiw he h16
            refine Z06 (R := Ext) (w0 := w1) [[], [0], [0, 1], [0, 1, 2], [0, 1, 2, 3], [0, 1, 2, 3, 4], [0, 1, 2, 3, 4, 5], [0, 1, 2, 3, 4, 5, 6], [0, 1, 2, 3, 4, 5, 6, 7], [0, 1, 2, 3, 4, 5, 6, 7, 8], [0, 1, 2, 3, 4, 5, 6, 7, 8, 9], [0, 1, 2, 3, 4, 5, 6, 7, 8, 9, 10], [0, 1, 2, 3, 4, 5, 6, 7, 8, 9, 10, 11], [0, 1, 2, 3, 4, 5, 6, 7, 8, 9, 10, 11, 12], [0, 1, 2, 3, 4, 5, 6, 7, 8, 9, 10, 11, 12, 13], [0, 1, 2, 3, 4, 5, 6, 7, 8, 9, 10, 11, 12, 13, 14], [0, 1, 2, 3, 4, 5, 6, 7, 8, 9, 10, 11, 12, 13, 14, 15], [0, 1, 2, 3, 4, 5, 6, 7, 8, 9, 10, 11, 12, 13, 14, 15, 16], [0, 1, 2, 3, 4, 5, 6, 7, 8, 9, 10, 11, 12, 13, 14, 15, 16, 17], [0, 1, 2, 3, 4, 5, 6, 7, 8, 9, 10, 11, 12, 13, 14, 15, 16, 17, 18], [0, 1, 2, 3, 4, 5, 6, 7, 8, 9, 10, 11, 12, 13, 14, 15, 16, 17], [0, 1, 2, 3, 4, 5, 6, 7, 8, 9, 10, 11, 12, 13, 14, 15, 16, 17], [0, 1, 2, 3, 4, 5, 6, 7, 8, 9, 10, 11, 12, 13, 14, 15, 16, 17, 21], [0, 1, 2, 3, 4, 5, 6, 7, 8, 9, 10, 11, 12, 13, 14, 15, 16, 17, 20, 21, 22], [0, 1, 2, 3, 4, 5, 6, 7, 8, 9, 10, 11, 12, 13, 14, 15, 16, 17, 20, 21, 22, 23], [0, 1, 2, 3, 4, 5, 6, 7, 8, 9, 10, 11, 12, 13, 14, 15, 16, 17, 20, 21, 22, 23, 24], [0, 1, 2, 3, 4, 5, 6, 7, 8, 9, 10, 11, 12, 13, 14, 15, 16, 17, 18, 19, 20, 21, 22, 23, 24, 25], [0, 1, 2, 3, 4, 5, 6, 7, 8, 9, 10, 11, 12, 13, 14, 15, 16, 17], [0, 1, 2, 3, 4, 5, 6, 7, 8, 9, 10, 11, 12, 13, 14, 15, 16, 17], [0, 1, 2, 3, 4, 5, 6, 7, 8, 9, 10, 11, 12, 13, 14, 15, 16, 17, 28], [0, 1, 2, 3, 4, 5, 6, 7, 8, 9, 10, 11, 12, 13, 14, 15, 16, 17, 27, 28, 29], [0, 1, 2, 3, 4, 5, 6, 7, 8, 9, 10, 11, 12, 13, 14, 15, 16, 17, 27, 28, 29, 30], [0, 1, 2, 3, 4, 5, 6, 7, 8, 9, 10, 11, 12, 13, 14, 15, 16, 17, 27, 28, 29, 30, 31], [0, 1, 2, 3, 4, 5, 6, 7, 8, 9, 10, 11, 12, 13, 14, 15, 16, 17, 18, 19, 20, 21, 22, 23, 24, 25, 26, 27, 28, 29, 30, 31, 32], [0, 1, 2, 3, 4, 5, 6, 7, 8, 9, 10, 11, 12, 13, 14, 15, 16, 17, 18, 19, 20, 21, 22, 23, 24, 25, 26, 27, 28, 29, 30, 31, 32, 33], [0, 1, 2, 3, 4, 5, 6, 7, 8, 9, 10, 11, 12, 13, 14, 15, 16, 17, 18, 19, 20, 21, 22, 23, 24, 25, 26, 27, 28, 29, 30, 31, 32, 33, 34]] [12, 13, 14, 15, 16, 17, 18, 19, 20, 21, 22, 23, 24, 25, 26, 27, 28, 29, 30, 31, 32, 33, 34, 35, 36, 37, 38, 39, 40, 41, 42, 43, 44, 45, 46, 47] Ext.refl (fun _ _ _ => Ext.trans) (Ext.drew _) (by kernel_rfl) ?_
            apply Build.det 12 Ext.refl (by rfl) (by rfl) rfl
            case h =>
              intro ax wx hE hR hF
              have e4 : ax.eval (.tmp 4) = .pointer (some ⟨wr.heap.size, 0, none⟩) := hE.eval 4 (by rfl) rfl
              simp [go_sem, ↓IntWalk.iteOmega, ev e4, dneg, d1]
              with_reducible rfl
            apply Build.det 13 Ext.refl (by rfl) (by rfl) rfl
            case h =>
              intro ax wx hE hR hF
              have e12 := hF 0 (det 12 _) (by decide) (.head _)
              have hX2 := HX.out.ext hR; have q0 := hX2.cell 0; have q1 := hX2.cell 1
              simp [go_sem, ↓IntWalk.iteOmega, ev e12, dneg, d1, q0, q1]
              with_reducible rfl
            apply Build.det 14 Ext.refl (by rfl) (by rfl) rfl
            case h =>
              intro ax wx hE hR hF
              have e13 := hF 1 (det 13 _) (by decide) (.head _)
              simp [go_sem, ↓IntWalk.iteOmega, ev e13, dneg, d1]
              with_reducible rfl
            apply Build.det 15 Ext.refl (by rfl) (by rfl) rfl
            case h =>
              intro ax wx hE hR hF
              have e14 := hF 2 (det 14 _) (by decide) (.head _)
              simp [go_sem, ↓IntWalk.iteOmega, ev e14, dneg, d1]
              with_reducible rfl
            apply Build.detg 16 Ext.refl (by rfl) (by rfl) rfl rfl
            case h =>
              intro ax wx hE hR hF
              have e4 : ax.eval (.tmp 4) = .pointer (some ⟨wr.heap.size, 0, none⟩) := hE.eval 4 (by rfl) rfl
              have e15 := hF 3 (det 15 _) (by decide) (.head _)
              refine ⟨e15, ?_⟩
              simp [go_sem, ↓IntWalk.iteOmega, ev e4, ev e15, dneg, d1]
              with_reducible rfl
            apply Build.detg 17 Ext.refl (by rfl) (by rfl) rfl rfl
            case h =>
              intro ax wx hE hR hF
              have e15 := hF 3 (det 15 _) (by decide) (.tail _ (.head _))
              have e16 := hF 4 (det 16 _) (by decide) (.head _)
              have hX2 := HX.out.ext hR; have q0 := hX2.cell 0; have q1 := hX2.cell 1
              refine ⟨e15, ?_⟩
              simp [go_sem, ↓IntWalk.iteOmega, ev e15, ev e16, dneg, d1, q0, q1]
              with_reducible rfl
            apply Build.detg 18 Ext.refl (by rfl) (by rfl) rfl rfl
            case h =>
              intro ax wx hE hR hF
              have e15 := hF 3 (det 15 _) (by decide) (.tail _ (.tail _ (.head _)))
              have e17 := hF 5 (det 17 _) (by decide) (.head _)
              refine ⟨e15, ?_⟩
              simp [go_sem, ↓IntWalk.iteOmega, ev e15, ev e17, dneg, d1]
              with_reducible rfl
            apply Build.det 19 Ext.refl (by rfl) (by rfl) rfl
            case h =>
              intro ax wx hE hR hF
              have e15 := hF 3 (det 15 _) (by decide) (.tail _ (.tail _ (.tail _ (.head _))))
              have e18 := hF 6 (det 18 _) (by decide) (.head _)
              simp [go_sem, ↓IntWalk.iteOmega, ev e15, ev e18, dneg, d1]
              with_reducible rfl
            apply Build.det 20 Ext.refl (by rfl) (by rfl) rfl
            case h =>
              intro ax wx hE hR hF
              have e19 := hF 7 (det 19 _) (by decide) (.head _)
              simp [go_sem, ↓IntWalk.iteOmega, ev e19, dneg, d1]
              with_reducible rfl
            apply Build.detg 21 Ext.refl (by rfl) (by rfl) rfl rfl
            case h =>
              intro ax wx hE hR hF
              have e4 : ax.eval (.tmp 4) = .pointer (some ⟨wr.heap.size, 0, none⟩) := hE.eval 4 (by rfl) rfl
              have e20 := hF 8 (det 20 _) (by decide) (.head _)
              refine ⟨e20, ?_⟩
              simp [go_sem, ↓IntWalk.iteOmega, ev e4, ev e20, dneg, d1]
              with_reducible rfl
            apply Build.detg 22 Ext.refl (by rfl) (by rfl) rfl rfl
            case h =>
              intro ax wx hE hR hF
              have e20 := hF 8 (det 20 _) (by decide) (.tail _ (.head _))
              have e21 := hF 9 (det 21 _) (by decide) (.head _)
              have hX2 := HX.out.ext hR; have q0 := hX2.cell 0; have q1 := hX2.cell 1
              refine ⟨e20, ?_⟩
              simp [go_sem, ↓IntWalk.iteOmega, ev e20, ev e21, dneg, d1, q0, q1]
              with_reducible rfl
            apply Build.callg 23 Ext.refl (by rfl) (by rfl) rfl rfl
            case h =>
              intro ax wx hE hR hF
              have e20 := hF 8 (det 20 _) (by decide) (.tail _ (.tail _ (.head _)))
              have e22 := hF 10 (det 22 _) (by decide) (.head _)
              refine ⟨e20, ?_⟩
              simp [go_sem, ↓IntWalk.iteOmega, ev e20, ev e22, dneg, d1]
              with_reducible exact ⟨rfl, rfl⟩
            case hc => intro wx hR; with_reducible exact HW.out wx
            apply Build.detg 24 Ext.refl (by rfl) (by rfl) rfl rfl
            case h =>
              intro ax wx hE hR hF
              have e20 := hF 8 (det 20 _) (by decide) (.tail _ (.tail _ (.tail _ (.head _))))
              have e23 := hF 11 (det 23 _) (by decide) (.head _)
              refine ⟨e20, ?_⟩
              simp [go_sem, ↓IntWalk.iteOmega, ev e20, ev e23, dneg, d1]
              with_reducible rfl
            apply Build.det 25 Ext.refl (by rfl) (by rfl) rfl
            case h =>
              intro ax wx hE hR hF
              have e20 := hF 8 (det 20 _) (by decide) (mem4 (.head _))
              have e24 := hF 12 (det 24 _) (by decide) (.head _)
              simp [go_sem, ↓IntWalk.iteOmega, ev e20, ev e24, dneg, d1]
              with_reducible rfl
            apply Build.det 26 Ext.refl (by rfl) (by rfl) rfl
            case h =>
              intro ax wx hE hR hF
              have e25 := hF 13 (det 25 _) (by decide) (.head _)
              simp [go_sem, ↓IntWalk.iteOmega, ev e25, dneg, d1]
              with_reducible rfl
            apply Build.detg 27 Ext.refl (by rfl) (by rfl) rfl rfl
            case h =>
              intro ax wx hE hR hF
              have e3 : ax.eval (.tmp 3) = .int .i64 ((0 : Nat) : Int) := hE.eval 3 (by rfl) rfl
              have e26 := hF 14 (det 26 _) (by decide) (.head _)
              refine ⟨e26, ?_⟩
              simp [go_sem, ↓IntWalk.iteOmega, ev e3, ev e26, dneg, d1]
              with_reducible rfl
            apply Build.detg 28 Ext.refl (by rfl) (by rfl) rfl rfl
            case h =>
              intro ax wx hE hR hF
              have e26 := hF 14 (det 26 _) (by decide) (.tail _ (.head _))
              have e27 := hF 15 (det 27 _) (by decide) (.head _)
              refine ⟨e26, ?_⟩
              simp [go_sem, ↓IntWalk.iteOmega, ev e26, ev e27, dneg, d1]
              with_reducible rfl
            apply Build.detg 29 Ext.refl (by rfl) (by rfl) rfl rfl
            case h =>
              intro ax wx hE hR hF
              have e26 := hF 14 (det 26 _) (by decide) (.tail _ (.tail _ (.head _)))
              have e28 := hF 16 (det 28 _) (by decide) (.head _)
              refine ⟨e26, ?_⟩
              simp [go_sem, ↓IntWalk.iteOmega, ev e26, ev e28, dneg, d1]
              with_reducible rfl
            refine Build.skip 30 (by rfl) (by rfl) rfl rfl ?_ ?_
            · intro ax wx hE hR hF
              have e29 := hF 17 (det 29 _) (by decide) (.head _)
              exact e29
            refine Build.skip 31 (by rfl) (by rfl) rfl rfl ?_ ?_
            · intro ax wx hE hR hF
              have e29 := hF 17 (det 29 _) (by decide) (.tail _ (.head _))
              exact e29
            refine Build.skip 32 (by rfl) (by rfl) rfl rfl ?_ ?_
            · intro ax wx hE hR hF
              have e29 := hF 17 (det 29 _) (by decide) (.tail _ (.tail _ (.head _)))
              exact e29
            refine Build.skip 33 (by rfl) (by rfl) rfl rfl ?_ ?_
            · intro ax wx hE hR hF
              have e29 := hF 17 (det 29 _) (by decide) (.tail _ (.tail _ (.tail _ (.head _))))
              exact e29
            refine Build.skip 34 (by rfl) (by rfl) rfl rfl ?_ ?_
            · intro ax wx hE hR hF
              have e29 := hF 17 (det 29 _) (by decide) (mem4 (.head _))
              exact e29
            refine Build.skip 35 (by rfl) (by rfl) rfl rfl ?_ ?_
            · intro ax wx hE hR hF
              have e29 := hF 17 (det 29 _) (by decide) (mem4 (.tail _ (.head _)))
              exact e29
            refine Build.skip 36 (by rfl) (by rfl) rfl rfl ?_ ?_
            · intro ax wx hE hR hF
              have e29 := hF 17 (det 29 _) (by decide) (mem4 (.tail _ (.tail _ (.head _))))
              exact e29
            refine Build.skip 37 (by rfl) (by rfl) rfl rfl ?_ ?_
            · intro ax wx hE hR hF
              have e29 := hF 17 (det 29 _) (by decide) (mem4 (.tail _ (.tail _ (.tail _ (.head _)))))
              exact e29
            refine Build.skip 38 (by rfl) (by rfl) rfl rfl ?_ ?_
            · intro ax wx hE hR hF
              have e29 := hF 17 (det 29 _) (by decide) (mem4 (mem4 (.head _)))
              exact e29
            refine Build.skip 39 (by rfl) (by rfl) rfl rfl ?_ ?_
            · intro ax wx hE hR hF
              have e29 := hF 17 (det 29 _) (by decide) (mem4 (mem4 (.tail _ (.head _))))
              exact e29
            refine Build.skip 40 (by rfl) (by rfl) rfl rfl ?_ ?_
            · intro ax wx hE hR hF
              have e29 := hF 17 (det 29 _) (by decide) (mem4 (mem4 (.tail _ (.tail _ (.head _)))))
              exact e29
            refine Build.skip 41 (by rfl) (by rfl) rfl rfl ?_ ?_
            · intro ax wx hE hR hF
              have e29 := hF 17 (det 29 _) (by decide) (mem4 (mem4 (.tail _ (.tail _ (.tail _ (.head _))))))
              exact e29
            refine Build.skip 42 (by rfl) (by rfl) rfl rfl ?_ ?_
            · intro ax wx hE hR hF
              have e29 := hF 17 (det 29 _) (by decide) (mem4 (mem4 (mem4 (.head _))))
              exact e29
            refine Build.skip 43 (by rfl) (by rfl) rfl rfl ?_ ?_
            · intro ax wx hE hR hF
              have e29 := hF 17 (det 29 _) (by decide) (mem4 (mem4 (mem4 (.tail _ (.head _)))))
              exact e29
            refine Build.skip 44 (by rfl) (by rfl) rfl rfl ?_ ?_
            · intro ax wx hE hR hF
              have e29 := hF 17 (det 29 _) (by decide) (mem4 (mem4 (mem4 (.tail _ (.tail _ (.head _))))))
              exact e29
            refine Build.skip 45 (by rfl) (by rfl) rfl rfl ?_ ?_
            · intro ax wx hE hR hF
              have e29 := hF 17 (det 29 _) (by decide) (mem4 (mem4 (mem4 (.tail _ (.tail _ (.tail _ (.head _)))))))
              exact e29
            apply Build.detg 46 Ext.refl (by rfl) (by rfl) rfl rfl
            case h =>
              intro ax wx hE hR hF
              have e26 := hF 14 (det 26 _) (by decide) (mem16 (.tail _ (.tail _ (.tail _ (.head _)))))
              have e29 := hF 17 (det 29 _) (by decide) (mem16 (.head _))
              have e45 := hF 33 (det 45 _) (by decide) (.head _)
              refine ⟨e26, ?_⟩
              simp [go_sem, ↓IntWalk.iteOmega, ev e26, ev e29, ev e45, dneg, d1]
              with_reducible rfl
            apply Build.det 47 Ext.refl (by rfl) (by rfl) rfl
            case h =>
              intro ax wx hE hR hF
              have e26 := hF 14 (det 26 _) (by decide) (mem16 (mem4 (.head _)))
              have e46 := hF 34 (det 46 _) (by decide) (.head _)
              simp [go_sem, ↓IntWalk.iteOmega, ev e26, ev e46, dneg, d1]
              with_reducible rfl
            apply Build.stop
            refine ⟨by kernel_rfl, .inl ⟨rfl, ?_⟩⟩
            intro ax w2 hE R2 hF
            have e12 := hF 0 (det 12 _) (mem16 (mem16 (.tail _ (.tail _ (.tail _ (.head _))))))
            have e13 := hF 1 (det 13 _) (mem16 (mem16 (.tail _ (.tail _ (.head _)))))
            have e14 := hF 2 (det 14 _) (mem16 (mem16 (.tail _ (.head _))))
            have e15 := hF 3 (det 15 _) (mem16 (mem16 (.head _)))
            have e16 := hF 4 (det 16 _) (mem16 (mem4 (mem4 (mem4 (.tail _ (.tail _ (.tail _ (.head _))))))))
            have e17 := hF 5 (det 17 _) (mem16 (mem4 (mem4 (mem4 (.tail _ (.tail _ (.head _)))))))
            have e18 := hF 6 (det 18 _) (mem16 (mem4 (mem4 (mem4 (.tail _ (.head _))))))
            have e19 := hF 7 (det 19 _) (mem16 (mem4 (mem4 (mem4 (.head _)))))
            have e20 := hF 8 (det 20 _) (mem16 (mem4 (mem4 (.tail _ (.tail _ (.tail _ (.head _)))))))
            have e21 := hF 9 (det 21 _) (mem16 (mem4 (mem4 (.tail _ (.tail _ (.head _))))))
            have e22 := hF 10 (det 22 _) (mem16 (mem4 (mem4 (.tail _ (.head _)))))
            have e23 := hF 11 (det 23 _) (mem16 (mem4 (mem4 (.head _))))
            have e24 := hF 12 (det 24 _) (mem16 (mem4 (.tail _ (.tail _ (.tail _ (.head _))))))
            have e25 := hF 13 (det 25 _) (mem16 (mem4 (.tail _ (.tail _ (.head _)))))
            have e26 := hF 14 (det 26 _) (mem16 (mem4 (.tail _ (.head _))))
            have e27 := hF 15 (det 27 _) (mem16 (mem4 (.head _)))
            have e28 := hF 16 (det 28 _) (mem16 (.tail _ (.tail _ (.tail _ (.head _)))))
            have e29 := hF 17 (det 29 _) (mem16 (.tail _ (.tail _ (.head _))))
            have e30 := hF 18 (det 30 _) (mem16 (.tail _ (.head _)))
            have e31 := hF 19 (det 31 _) (mem16 (.head _))
            have e32 := hF 20 (det 32 _) (mem4 (mem4 (mem4 (.tail _ (.tail _ (.tail _ (.head _)))))))
            have e33 := hF 21 (det 33 _) (mem4 (mem4 (mem4 (.tail _ (.tail _ (.head _))))))
            have e34 := hF 22 (det 34 _) (mem4 (mem4 (mem4 (.tail _ (.head _)))))
            have e35 := hF 23 (det 35 _) (mem4 (mem4 (mem4 (.head _))))
            have e36 := hF 24 (det 36 _) (mem4 (mem4 (.tail _ (.tail _ (.tail _ (.head _))))))
            have e37 := hF 25 (det 37 _) (mem4 (mem4 (.tail _ (.tail _ (.head _)))))
            have e38 := hF 26 (det 38 _) (mem4 (mem4 (.tail _ (.head _))))
            have e39 := hF 27 (det 39 _) (mem4 (mem4 (.head _)))
            have e40 := hF 28 (det 40 _) (mem4 (.tail _ (.tail _ (.tail _ (.head _)))))
            have e41 := hF 29 (det 41 _) (mem4 (.tail _ (.tail _ (.head _))))
            have e42 := hF 30 (det 42 _) (mem4 (.tail _ (.head _)))
            have e43 := hF 31 (det 43 _) (mem4 (.head _))
            have e44 := hF 32 (det 44 _) (.tail _ (.tail _ (.tail _ (.head _))))
            have e45 := hF 33 (det 45 _) (.tail _ (.tail _ (.head _)))
            have e46 := hF 34 (det 46 _) (.tail _ (.head _))
            have e47 := hF 35 (det 47 _) (.head _)
            rw [AllEq.frame (D := [12, 13, 14, 15, 16, 17, 18, 19, 20, 21, 22, 23, 24, 25, 26, 27, 28, 29, 30, 31, 32, 33, 34, 35, 36, 37, 38, 39, 40, 41, 42, 43, 44, 45, 46, 47]) (AllEq.cons e12 (AllEq.cons e13 (AllEq.cons e14 (AllEq.cons e15 (AllEq.cons e16 (AllEq.cons e17 (AllEq.cons e18 (AllEq.cons e19 (AllEq.cons e20 (AllEq.cons e21 (AllEq.cons e22 (AllEq.cons e23 (AllEq.cons e24 (AllEq.cons e25 (AllEq.cons e26 (AllEq.cons e27 (AllEq.cons e28 (AllEq.cons e29 (AllEq.cons e30 (AllEq.cons e31 (AllEq.cons e32 (AllEq.cons e33 (AllEq.cons e34 (AllEq.cons e35 (AllEq.cons e36 (AllEq.cons e37 (AllEq.cons e38 (AllEq.cons e39 (AllEq.cons e40 (AllEq.cons e41 (AllEq.cons e42 (AllEq.cons e43 (AllEq.cons e44 (AllEq.cons e45 (AllEq.cons e46 (AllEq.cons e47 (AllEq.nil))))))))))))))))))))))))))))))))))))) hE rfl]
            clear hF hE e12 e13 e14 e15 e16 e17 e18 e19 e20 e21 e22 e23 e24 e25 e26 e27 e28 e29 e30 e31 e32 e33 e34 e35 e36 e37 e38 e39 e40 e41 e42 e43 e44 e45 e46 e47
            simp only [List.foldl_cons, List.foldl_nil, Act.put, List.setIfInBounds_toArray, List.set_cons_succ, List.set_cons_zero]
            have hEx := hE1.trans R2
            go_wp2_with fail
            go_roundw
            case rel => exact ⟨_, by go_num, by omega, hEx, HS.out HOK⟩
            case measure => simp [intOf]; omega
          · rw [decide_eq_false h16] at hiw
            have HW := Lib.hid hiw
            have HBAD : ¬ okX L 0 := fun h => by have h1 := h.2.1; rw [HD.out] at h1; omega
            clear hiw he h16
            refine Z06 (R := Ext) (w0 := w1) [[], [0], [0, 1], [0, 1, 2], [0, 1, 2, 3], [0, 1, 2, 3, 4], [0, 1, 2, 3, 4, 5], [0, 1, 2, 3, 4, 5, 6], [0, 1, 2, 3, 4, 5, 6, 7], [0, 1, 2, 3, 4, 5, 6, 7, 8], [0, 1, 2, 3, 4, 5, 6, 7, 8, 9], [0, 1, 2, 3, 4, 5, 6, 7, 8, 9, 10], [0, 1, 2, 3, 4, 5, 6, 7, 8, 9, 10, 11], [0, 1, 2, 3, 4, 5, 6, 7, 8, 9, 10, 11, 12], [0, 1, 2, 3, 4, 5, 6, 7, 8, 9, 10, 11, 12, 13], [0, 1, 2, 3, 4, 5, 6, 7, 8, 9, 10, 11, 12, 13, 14], [0, 1, 2, 3, 4, 5, 6, 7, 8, 9, 10, 11, 12, 13, 14, 15], [0, 1, 2, 3, 4, 5, 6, 7, 8, 9, 10, 11, 12, 13, 14, 15, 16], [0, 1, 2, 3, 4, 5, 6, 7, 8, 9, 10, 11, 12, 13, 14, 15, 16, 17], [0, 1, 2, 3, 4, 5, 6, 7, 8, 9, 10, 11, 12, 13, 14, 15, 16, 17, 18], [0, 1, 2, 3, 4, 5, 6, 7, 8, 9, 10, 11, 12, 13, 14, 15, 16, 17], [0, 1, 2, 3, 4, 5, 6, 7, 8, 9, 10, 11, 12, 13, 14, 15, 16, 17], [0, 1, 2, 3, 4, 5, 6, 7, 8, 9, 10, 11, 12, 13, 14, 15, 16, 17, 21], [0, 1, 2, 3, 4, 5, 6, 7, 8, 9, 10, 11, 12, 13, 14, 15, 16, 17, 20, 21, 22], [0, 1, 2, 3, 4, 5, 6, 7, 8, 9, 10, 11, 12, 13, 14, 15, 16, 17, 20, 21, 22, 23], [0, 1, 2, 3, 4, 5, 6, 7, 8, 9, 10, 11, 12, 13, 14, 15, 16, 17, 20, 21, 22, 23, 24], [0, 1, 2, 3, 4, 5, 6, 7, 8, 9, 10, 11, 12, 13, 14, 15, 16, 17, 18, 19, 20, 21, 22, 23, 24, 25], [0, 1, 2, 3, 4, 5, 6, 7, 8, 9, 10, 11, 12, 13, 14, 15, 16, 17], [0, 1, 2, 3, 4, 5, 6, 7, 8, 9, 10, 11, 12, 13, 14, 15, 16, 17], [0, 1, 2, 3, 4, 5, 6, 7, 8, 9, 10, 11, 12, 13, 14, 15, 16, 17, 28], [0, 1, 2, 3, 4, 5, 6, 7, 8, 9, 10, 11, 12, 13, 14, 15, 16, 17, 27, 28, 29], [0, 1, 2, 3, 4, 5, 6, 7, 8, 9, 10, 11, 12, 13, 14, 15, 16, 17, 27, 28, 29, 30], [0, 1, 2, 3, 4, 5, 6, 7, 8, 9, 10, 11, 12, 13, 14, 15, 16, 17, 27, 28, 29, 30, 31], [0, 1, 2, 3, 4, 5, 6, 7, 8, 9, 10, 11, 12, 13, 14, 15, 16, 17, 18, 19, 20, 21, 22, 23, 24, 25, 26, 27, 28, 29, 30, 31, 32], [0, 1, 2, 3, 4, 5, 6, 7, 8, 9, 10, 11, 12, 13, 14, 15, 16, 17, 18, 19, 20, 21, 22, 23, 24, 25, 26, 27, 28, 29, 30, 31, 32, 33], [0, 1, 2, 3, 4, 5, 6, 7, 8, 9, 10, 11, 12, 13, 14, 15, 16, 17, 18, 19, 20, 21, 22, 23, 24, 25, 26, 27, 28, 29, 30, 31, 32, 33, 34]] [12, 13, 14, 15, 16, 17, 18, 19, 20, 21, 22, 23, 24, 25, 26, 27, 28, 29, 30, 31, 32, 33, 34, 35, 36, 37, 38, 39, 40, 41, 42, 43, 44, 45, 46, 47] Ext.refl (fun _ _ _ => Ext.trans) (Ext.drew _) (by kernel_rfl) ?_
            apply Build.det 12 Ext.refl (by rfl) (by rfl) rfl
            case h =>
              intro ax wx hE hR hF
              have e4 : ax.eval (.tmp 4) = .pointer (some ⟨wr.heap.size, 0, none⟩) := hE.eval 4 (by rfl) rfl
              simp [go_sem, ↓IntWalk.iteOmega, ev e4, dneg, d1]
              with_reducible rfl
            apply Build.det 13 Ext.refl (by rfl) (by rfl) rfl
            case h =>
              intro ax wx hE hR hF
              have e12 := hF 0 (det 12 _) (by decide) (.head _)
              have hX2 := HX.out.ext hR; have q0 := hX2.cell 0; have q1 := hX2.cell 1
              simp [go_sem, ↓IntWalk.iteOmega, ev e12, dneg, d1, q0, q1]
              with_reducible rfl
            apply Build.det 14 Ext.refl (by rfl) (by rfl) rfl
            case h =>
              intro ax wx hE hR hF
              have e13 := hF 1 (det 13 _) (by decide) (.head _)
              simp [go_sem, ↓IntWalk.iteOmega, ev e13, dneg, d1]
              with_reducible rfl
            apply Build.det 15 Ext.refl (by rfl) (by rfl) rfl
            case h =>
              intro ax wx hE hR hF
              have e14 := hF 2 (det 14 _) (by decide) (.head _)
              simp [go_sem, ↓IntWalk.iteOmega, ev e14, dneg, d1]
              with_reducible rfl
            apply Build.detg 16 Ext.refl (by rfl) (by rfl) rfl rfl
            case h =>
              intro ax wx hE hR hF
              have e4 : ax.eval (.tmp 4) = .pointer (some ⟨wr.heap.size, 0, none⟩) := hE.eval 4 (by rfl) rfl
              have e15 := hF 3 (det 15 _) (by decide) (.head _)
              refine ⟨e15, ?_⟩
              simp [go_sem, ↓IntWalk.iteOmega, ev e4, ev e15, dneg, d1]
              with_reducible rfl
            apply Build.detg 17 Ext.refl (by rfl) (by rfl) rfl rfl
            case h =>
              intro ax wx hE hR hF
              have e15 := hF 3 (det 15 _) (by decide) (.tail _ (.head _))
              have e16 := hF 4 (det 16 _) (by decide) (.head _)
              have hX2 := HX.out.ext hR; have q0 := hX2.cell 0; have q1 := hX2.cell 1
              refine ⟨e15, ?_⟩
              simp [go_sem, ↓IntWalk.iteOmega, ev e15, ev e16, dneg, d1, q0, q1]
              with_reducible rfl
            apply Build.detg 18 Ext.refl (by rfl) (by rfl) rfl rfl
            case h =>
              intro ax wx hE hR hF
              have e15 := hF 3 (det 15 _) (by decide) (.tail _ (.tail _ (.head _)))
              have e17 := hF 5 (det 17 _) (by decide) (.head _)
              refine ⟨e15, ?_⟩
              simp [go_sem, ↓IntWalk.iteOmega, ev e15, ev e17, dneg, d1]
              with_reducible rfl
            apply Build.det 19 Ext.refl (by rfl) (by rfl) rfl
            case h =>
              intro ax wx hE hR hF
              have e15 := hF 3 (det 15 _) (by decide) (.tail _ (.tail _ (.tail _ (.head _))))
              have e18 := hF 6 (det 18 _) (by decide) (.head _)
              simp [go_sem, ↓IntWalk.iteOmega, ev e15, ev e18, dneg, d1]
              with_reducible rfl
            apply Build.det 20 Ext.refl (by rfl) (by rfl) rfl
            case h =>
              intro ax wx hE hR hF
              have e19 := hF 7 (det 19 _) (by decide) (.head _)
              simp [go_sem, ↓IntWalk.iteOmega, ev e19, dneg, d1]
              with_reducible rfl
            apply Build.detg 21 Ext.refl (by rfl) (by rfl) rfl rfl
            case h =>
              intro ax wx hE hR hF
              have e4 : ax.eval (.tmp 4) = .pointer (some ⟨wr.heap.size, 0, none⟩) := hE.eval 4 (by rfl) rfl
              have e20 := hF 8 (det 20 _) (by decide) (.head _)
              refine ⟨e20, ?_⟩
              simp [go_sem, ↓IntWalk.iteOmega, ev e4, ev e20, dneg, d1]
              with_reducible rfl
            apply Build.detg 22 Ext.refl (by rfl) (by rfl) rfl rfl
            case h =>
              intro ax wx hE hR hF
              have e20 := hF 8 (det 20 _) (by decide) (.tail _ (.head _))
              have e21 := hF 9 (det 21 _) (by decide) (.head _)
              have hX2 := HX.out.ext hR; have q0 := hX2.cell 0; have q1 := hX2.cell 1
              refine ⟨e20, ?_⟩
              simp [go_sem, ↓IntWalk.iteOmega, ev e20, ev e21, dneg, d1, q0, q1]
              with_reducible rfl
            apply Build.callg 23 Ext.refl (by rfl) (by rfl) rfl rfl
            case h =>
              intro ax wx hE hR hF
              have e20 := hF 8 (det 20 _) (by decide) (.tail _ (.tail _ (.head _)))
              have e22 := hF 10 (det 22 _) (by decide) (.head _)
              refine ⟨e20, ?_⟩
              simp [go_sem, ↓IntWalk.iteOmega, ev e20, ev e22, dneg, d1]
              with_reducible exact ⟨rfl, rfl⟩
            case hc => intro wx hR; with_reducible exact HW.out wx
            apply Build.detg 24 Ext.refl (by rfl) (by rfl) rfl rfl
            case h =>
              intro ax wx hE hR hF
              have e20 := hF 8 (det 20 _) (by decide) (.tail _ (.tail _ (.tail _ (.head _))))
              have e23 := hF 11 (det 23 _) (by decide) (.head _)
              refine ⟨e20, ?_⟩
              simp [go_sem, ↓IntWalk.iteOmega, ev e20, ev e23, dneg, d1]
              with_reducible rfl
            apply Build.det 25 Ext.refl (by rfl) (by rfl) rfl
            case h =>
              intro ax wx hE hR hF
              have e20 := hF 8 (det 20 _) (by decide) (mem4 (.head _))
              have e24 := hF 12 (det 24 _) (by decide) (.head _)
              simp [go_sem, ↓IntWalk.iteOmega, ev e20, ev e24, dneg, d1]
              with_reducible rfl
            apply Build.det 26 Ext.refl (by rfl) (by rfl) rfl
            case h =>
              intro ax wx hE hR hF
              have e25 := hF 13 (det 25 _) (by decide) (.head _)
              simp [go_sem, ↓IntWalk.iteOmega, ev e25, dneg, d1]
              with_reducible rfl
            refine Build.skip 27 (by rfl) (by rfl) rfl rfl ?_ ?_
            · intro ax wx hE hR hF
              have e26 := hF 14 (det 26 _) (by decide) (.head _)
              exact e26
            refine Build.skip 28 (by rfl) (by rfl) rfl rfl ?_ ?_
            · intro ax wx hE hR hF
              have e26 := hF 14 (det 26 _) (by decide) (.tail _ (.head _))
              exact e26
            refine Build.skip 29 (by rfl) (by rfl) rfl rfl ?_ ?_
            · intro ax wx hE hR hF
              have e26 := hF 14 (det 26 _) (by decide) (.tail _ (.tail _ (.head _)))
              exact e26
            refine Build.skipu 30 (by rfl) (by rfl) rfl rfl ?_ ?_
            · intro ax wx hE hR hF
              have e29 := hF 17 (det 29 _) (by decide) (.head _)
              exact e29
            refine Build.skipu 31 (by rfl) (by rfl) rfl rfl ?_ ?_
            · intro ax wx hE hR hF
              have e29 := hF 17 (det 29 _) (by decide) (.tail _ (.head _))
              exact e29
            refine Build.skipu 32 (by rfl) (by rfl) rfl rfl ?_ ?_
            · intro ax wx hE hR hF
              have e29 := hF 17 (det 29 _) (by decide) (.tail _ (.tail _ (.head _)))
              exact e29
            refine Build.skipu 33 (by rfl) (by rfl) rfl rfl ?_ ?_
            · intro ax wx hE hR hF
              have e29 := hF 17 (det 29 _) (by decide) (.tail _ (.tail _ (.tail _ (.head _))))
              exact e29
            refine Build.skipu 34 (by rfl) (by rfl) rfl rfl ?_ ?_
            · intro ax wx hE hR hF
              have e29 := hF 17 (det 29 _) (by decide) (mem4 (.head _))
              exact e29
            refine Build.skipu 35 (by rfl) (by rfl) rfl rfl ?_ ?_
            · intro ax wx hE hR hF
              have e29 := hF 17 (det 29 _) (by decide) (mem4 (.tail _ (.head _)))
              exact e29
            refine Build.skipu 36 (by rfl) (by rfl) rfl rfl ?_ ?_
            · intro ax wx hE hR hF
              have e29 := hF 17 (det 29 _) (by decide) (mem4 (.tail _ (.tail _ (.head _))))
              exact e29
            refine Build.skipu 37 (by rfl) (by rfl) rfl rfl ?_ ?_
            · intro ax wx hE hR hF
              have e29 := hF 17 (det 29 _) (by decide) (mem4 (.tail _ (.tail _ (.tail _ (.head _)))))
              exact e29
            refine Build.skipu 38 (by rfl) (by rfl) rfl rfl ?_ ?_
            · intro ax wx hE hR hF
              have e29 := hF 17 (det 29 _) (by decide) (mem4 (mem4 (.head _)))
              exact e29
            refine Build.skipu 39 (by rfl) (by rfl) rfl rfl ?_ ?_
            · intro ax wx hE hR hF
              have e29 := hF 17 (det 29 _) (by decide) (mem4 (mem4 (.tail _ (.head _))))
              exact e29
            refine Build.skipu 40 (by rfl) (by rfl) rfl rfl ?_ ?_
            · intro ax wx hE hR hF
              have e29 := hF 17 (det 29 _) (by decide) (mem4 (mem4 (.tail _ (.tail _ (.head _)))))
              exact e29
            refine Build.skipu 41 (by rfl) (by rfl) rfl rfl ?_ ?_
            · intro ax wx hE hR hF
              have e29 := hF 17 (det 29 _) (by decide) (mem4 (mem4 (.tail _ (.tail _ (.tail _ (.head _))))))
              exact e29
            refine Build.skipu 42 (by rfl) (by rfl) rfl rfl ?_ ?_
            · intro ax wx hE hR hF
              have e29 := hF 17 (det 29 _) (by decide) (mem4 (mem4 (mem4 (.head _))))
              exact e29
            refine Build.skipu 43 (by rfl) (by rfl) rfl rfl ?_ ?_
            · intro ax wx hE hR hF
              have e29 := hF 17 (det 29 _) (by decide) (mem4 (mem4 (mem4 (.tail _ (.head _)))))
              exact e29
            refine Build.skipu 44 (by rfl) (by rfl) rfl rfl ?_ ?_
            · intro ax wx hE hR hF
              have e29 := hF 17 (det 29 _) (by decide) (mem4 (mem4 (mem4 (.tail _ (.tail _ (.head _))))))
              exact e29
            refine Build.skipu 45 (by rfl) (by rfl) rfl rfl ?_ ?_
            · intro ax wx hE hR hF
              have e29 := hF 17 (det 29 _) (by decide) (mem4 (mem4 (mem4 (.tail _ (.tail _ (.tail _ (.head _)))))))
              exact e29
            refine Build.skip 46 (by rfl) (by rfl) rfl rfl ?_ ?_
            · intro ax wx hE hR hF
              have e26 := hF 14 (det 26 _) (by decide) (mem16 (.tail _ (.tail _ (.tail _ (.head _)))))
              exact e26
            apply Build.det 47 Ext.refl (by rfl) (by rfl) rfl
            case h =>
              intro ax wx hE hR hF
              have e26 := hF 14 (det 26 _) (by decide) (mem16 (mem4 (.head _)))
              have e46 := hF 34 (det 46 _) (by decide) (.head _)
              simp [go_sem, ↓IntWalk.iteOmega, ev e26, ev e46, dneg, d1]
              with_reducible rfl
            apply Build.stop
            refine ⟨by kernel_rfl, .inl ⟨rfl, ?_⟩⟩
            intro ax w2 hE R2 hF
            have e12 := hF 0 (det 12 _) (mem16 (mem16 (.tail _ (.tail _ (.tail _ (.head _))))))
            have e13 := hF 1 (det 13 _) (mem16 (mem16 (.tail _ (.tail _ (.head _)))))
            have e14 := hF 2 (det 14 _) (mem16 (mem16 (.tail _ (.head _))))
            have e15 := hF 3 (det 15 _) (mem16 (mem16 (.head _)))
            have e16 := hF 4 (det 16 _) (mem16 (mem4 (mem4 (mem4 (.tail _ (.tail _ (.tail _ (.head _))))))))
            have e17 := hF 5 (det 17 _) (mem16 (mem4 (mem4 (mem4 (.tail _ (.tail _ (.head _)))))))
            have e18 := hF 6 (det 18 _) (mem16 (mem4 (mem4 (mem4 (.tail _ (.head _))))))
            have e19 := hF 7 (det 19 _) (mem16 (mem4 (mem4 (mem4 (.head _)))))
            have e20 := hF 8 (det 20 _) (mem16 (mem4 (mem4 (.tail _ (.tail _ (.tail _ (.head _)))))))
            have e21 := hF 9 (det 21 _) (mem16 (mem4 (mem4 (.tail _ (.tail _ (.head _))))))
            have e22 := hF 10 (det 22 _) (mem16 (mem4 (mem4 (.tail _ (.head _)))))
            have e23 := hF 11 (det 23 _) (mem16 (mem4 (mem4 (.head _))))
            have e24 := hF 12 (det 24 _) (mem16 (mem4 (.tail _ (.tail _ (.tail _ (.head _))))))
            have e25 := hF 13 (det 25 _) (mem16 (mem4 (.tail _ (.tail _ (.head _)))))
            have e26 := hF 14 (det 26 _) (mem16 (mem4 (.tail _ (.head _))))
            have e27 := hF 15 (det 27 _) (mem16 (mem4 (.head _)))
            have e28 := hF 16 (det 28 _) (mem16 (.tail _ (.tail _ (.tail _ (.head _)))))
            have e29 := hF 17 (det 29 _) (mem16 (.tail _ (.tail _ (.head _))))
            have e30 := hF 18 (det 30 _) (mem16 (.tail _ (.head _)))
            have e31 := hF 19 (det 31 _) (mem16 (.head _))
            have e32 := hF 20 (det 32 _) (mem4 (mem4 (mem4 (.tail _ (.tail _ (.tail _ (.head _)))))))
            have e33 := hF 21 (det 33 _) (mem4 (mem4 (mem4 (.tail _ (.tail _ (.head _))))))
            have e34 := hF 22 (det 34 _) (mem4 (mem4 (mem4 (.tail _ (.head _)))))
            have e35 := hF 23 (det 35 _) (mem4 (mem4 (mem4 (.head _))))
            have e36 := hF 24 (det 36 _) (mem4 (mem4 (.tail _ (.tail _ (.tail _ (.head _))))))
            have e37 := hF 25 (det 37 _) (mem4 (mem4 (.tail _ (.tail _ (.head _)))))
            have e38 := hF 26 (det 38 _) (mem4 (mem4 (.tail _ (.head _))))
            have e39 := hF 27 (det 39 _) (mem4 (mem4 (.head _)))
            have e40 := hF 28 (det 40 _) (mem4 (.tail _ (.tail _ (.tail _ (.head _)))))
            have e41 := hF 29 (det 41 _) (mem4 (.tail _ (.tail _ (.head _))))
            have e42 := hF 30 (det 42 _) (mem4 (.tail _ (.head _)))
            have e43 := hF 31 (det 43 _) (mem4 (.head _))
            have e44 := hF 32 (det 44 _) (.tail _ (.tail _ (.tail _ (.head _))))
            have e45 := hF 33 (det 45 _) (.tail _ (.tail _ (.head _)))
            have e46 := hF 34 (det 46 _) (.tail _ (.head _))
            have e47 := hF 35 (det 47 _) (.head _)
            rw [AllEq.frame (D := [12, 13, 14, 15, 16, 17, 18, 19, 20, 21, 22, 23, 24, 25, 26, 27, 28, 29, 30, 31, 32, 33, 34, 35, 36, 37, 38, 39, 40, 41, 42, 43, 44, 45, 46, 47]) (AllEq.cons e12 (AllEq.cons e13 (AllEq.cons e14 (AllEq.cons e15 (AllEq.cons e16 (AllEq.cons e17 (AllEq.cons e18 (AllEq.cons e19 (AllEq.cons e20 (AllEq.cons e21 (AllEq.cons e22 (AllEq.cons e23 (AllEq.cons e24 (AllEq.cons e25 (AllEq.cons e26 (AllEq.cons e27 (AllEq.cons e28 (AllEq.cons e29 (AllEq.cons e30 (AllEq.cons e31 (AllEq.cons e32 (AllEq.cons e33 (AllEq.cons e34 (AllEq.cons e35 (AllEq.cons e36 (AllEq.cons e37 (AllEq.cons e38 (AllEq.cons e39 (AllEq.cons e40 (AllEq.cons e41 (AllEq.cons e42 (AllEq.cons e43 (AllEq.cons e44 (AllEq.cons e45 (AllEq.cons e46 (AllEq.cons e47 (AllEq.nil))))))))))))))))))))))))))))))))))))) hE rfl]
            clear hF hE e12 e13 e14 e15 e16 e17 e18 e19 e20 e21 e22 e23 e24 e25 e26 e27 e28 e29 e30 e31 e32 e33 e34 e35 e36 e37 e38 e39 e40 e41 e42 e43 e44 e45 e46 e47
            simp only [List.foldl_cons, List.foldl_nil, Act.put, List.setIfInBounds_toArray, List.set_cons_succ, List.set_cons_zero]
            have hEx := hE1.trans R2
            have hG : Hid (GB = false) := HB.out HBAD
            go_wp2_with fail
            go_ret
            exact ⟨by rw [hG.out] <;> rfl, hEx⟩
      | succ p =>
        have hpx : p < L.length := by omega
        have HP0 := Lib.hid (fun (W : World) (h : Ext wr W) => hrow.x_at (hEx0.trans h) hpx)
        obtain ⟨hka0, hkd0⟩ := hxx p hpx
        obtain ⟨K0, hK0⟩ : ∃ K, atX L p = K := ⟨_, rfl⟩
        obtain ⟨D0, hD0⟩ : ∃ D, datX L p = D := ⟨_, rfl⟩
        obtain ⟨Z, hZ⟩ : ∃ Z, D0.size / 16 = Z := ⟨_, rfl⟩
        rw [hK0] at HP0 hka0
        rw [hD0] at HP0 hkd0
        have HK0 := Lib.hid hK0
        have HZ0 : Hid ((datX L p).size / 16 = Z) := by rw [hD0]; exact hZ
        have hsz := fun W => Z4b (K0 : Int) D0 W (by omega)
        rw [hZ] at hsz
        have HZ := Lib.hid hsz
        have hzl : Z ≤ 1099511627776 := by omega
        have hwz : IntKind.i64.wrap ((K : Int) - (Z : Int)) = (K : Int) - (Z : Int) := IntWalk.i64_in _ (by omega)
        have hsub : IntKind.i64.wrap (((p + 1 : Nat) : Int) - 1) = (p : Int) := by rw [IntWalk.i64_in _ (by omega)]; omega
        have hsub2 : IntKind.i64.wrap (p : Int) = (p : Int) := IntWalk.i64_in _ (by omega)
        have HP := Lib.hid (fun (W : World) (h : Ext (wr.alloc (.cells #[.int .i64 K, .string D] 107)) W) => HP0.out W ((Ext.alloc wr (.cells #[.int .i64 K, .string D] 107)).trans h))
        clear hK0 hD0 hZ hsz HP0
        go_upto_region 4 with fail
        generalize wr.alloc (.cells #[.int .i64 K, .string D] 107) = w1 at HX hE1 HP ⊢
        clear q0 q1
        by_cases he : D.size = 0
        · have d1 := Z5m he
          have HW := Lib.hid hiw
          have HBAD : ¬ okX L (p + 1) := fun h => by have h1 := h.1; rw [HD.out] at h1; omega
          clear hiw he
          refine Z06 (R := Ext) (w0 := w1) [[], [0], [0, 1], [0, 1, 2], [0, 1, 2, 3], [0, 1, 2, 3, 4], [0, 1, 2, 3, 4, 5], [0, 1, 2, 3, 4, 5, 6], [0, 1, 2, 3, 4, 5, 6, 7], [0, 1, 2, 3, 4, 5, 6, 7, 8], [0, 1, 2, 3, 4, 5, 6, 7, 8, 9], [0, 1, 2, 3, 4, 5, 6, 7, 8, 9, 10], [0, 1, 2, 3, 4, 5, 6, 7, 8, 9, 10, 11], [0, 1, 2, 3, 4, 5, 6, 7, 8, 9, 10, 11, 12], [0, 1, 2, 3, 4, 5, 6, 7, 8, 9, 10, 11, 12, 13], [0, 1, 2, 3, 4, 5, 6, 7, 8, 9, 10, 11, 12, 13, 14], [0, 1, 2, 3, 4, 5, 6, 7, 8, 9, 10, 11, 12, 13, 14, 15], [0, 1, 2, 3, 4, 5, 6, 7, 8, 9, 10, 11, 12, 13, 14, 15, 16], [0, 1, 2, 3, 4, 5, 6, 7, 8, 9, 10, 11, 12, 13, 14, 15, 16, 17], [0, 1, 2, 3, 4, 5, 6, 7, 8, 9, 10, 11, 12, 13, 14, 15, 16, 17, 18], [0, 1, 2, 3, 4, 5, 6, 7, 8, 9, 10, 11, 12, 13, 14, 15, 16, 17], [0, 1, 2, 3, 4, 5, 6, 7, 8, 9, 10, 11, 12, 13, 14, 15, 16, 17], [0, 1, 2, 3, 4, 5, 6, 7, 8, 9, 10, 11, 12, 13, 14, 15, 16, 17, 21], [0, 1, 2, 3, 4, 5, 6, 7, 8, 9, 10, 11, 12, 13, 14, 15, 16, 17, 20, 21, 22], [0, 1, 2, 3, 4, 5, 6, 7, 8, 9, 10, 11, 12, 13, 14, 15, 16, 17, 20, 21, 22, 23], [0, 1, 2, 3, 4, 5, 6, 7, 8, 9, 10, 11, 12, 13, 14, 15, 16, 17, 20, 21, 22, 23, 24], [0, 1, 2, 3, 4, 5, 6, 7, 8, 9, 10, 11, 12, 13, 14, 15, 16, 17, 18, 19, 20, 21, 22, 23, 24, 25], [0, 1, 2, 3, 4, 5, 6, 7, 8, 9, 10, 11, 12, 13, 14, 15, 16, 17], [0, 1, 2, 3, 4, 5, 6, 7, 8, 9, 10, 11, 12, 13, 14, 15, 16, 17], [0, 1, 2, 3, 4, 5, 6, 7, 8, 9, 10, 11, 12, 13, 14, 15, 16, 17, 28], [0, 1, 2, 3, 4, 5, 6, 7, 8, 9, 10, 11, 12, 13, 14, 15, 16, 17, 27, 28, 29], [0, 1, 2, 3, 4, 5, 6, 7, 8, 9, 10, 11, 12, 13, 14, 15, 16, 17, 27, 28, 29, 30], [0, 1, 2, 3, 4, 5, 6, 7, 8, 9, 10, 11, 12, 13, 14, 15, 16, 17, 27, 28, 29, 30, 31], [0, 1, 2, 3, 4, 5, 6, 7, 8, 9, 10, 11, 12, 13, 14, 15, 16, 17, 18, 19, 20, 21, 22, 23, 24, 25, 26, 27, 28, 29, 30, 31, 32], [0, 1, 2, 3, 4, 5, 6, 7, 8, 9, 10, 11, 12, 13, 14, 15, 16, 17, 18, 19, 20, 21, 22, 23, 24, 25, 26, 27, 28, 29, 30, 31, 32, 33], [0, 1, 2, 3, 4, 5, 6, 7, 8, 9, 10, 11, 12, 13, 14, 15, 16, 17, 18, 19, 20, 21, 22, 23, 24, 25, 26, 27, 28, 29, 30, 31, 32, 33, 34]] [12, 13, 14, 15, 16, 17, 18, 19, 20, 21, 22, 23, 24, 25, 26, 27, 28, 29, 30, 31, 32, 33, 34, 35, 36, 37, 38, 39, 40, 41, 42, 43, 44, 45, 46, 47] Ext.refl (fun _ _ _ => Ext.trans) (Ext.drew _) (by kernel_rfl) ?_
          apply Build.det 12 Ext.refl (by rfl) (by rfl) rfl
          case h =>
            intro ax wx hE hR hF
            have e4 : ax.eval (.tmp 4) = .pointer (some ⟨wr.heap.size, 0, none⟩) := hE.eval 4 (by rfl) rfl
            simp [go_sem, ↓IntWalk.iteOmega, ev e4, dneg, hsub, hsub2, d1]
            with_reducible rfl
          apply Build.det 13 Ext.refl (by rfl) (by rfl) rfl
          case h =>
            intro ax wx hE hR hF
            have e12 := hF 0 (det 12 _) (by decide) (.head _)
            have hX2 := HX.out.ext hR; have q0 := hX2.cell 0; have q1 := hX2.cell 1; obtain ⟨p0, p1⟩ := HP.out _ hR
            simp [go_sem, ↓IntWalk.iteOmega, ev e12, dneg, hsub, hsub2, d1, q0, q1, p0, p1]
            with_reducible rfl
          apply Build.det 14 Ext.refl (by rfl) (by rfl) rfl
          case h =>
            intro ax wx hE hR hF
            have e13 := hF 1 (det 13 _) (by decide) (.head _)
            simp [go_sem, ↓IntWalk.iteOmega, ev e13, dneg, hsub, hsub2, d1]
            with_reducible rfl
          apply Build.det 15 Ext.refl (by rfl) (by rfl) rfl
          case h =>
            intro ax wx hE hR hF
            have e14 := hF 2 (det 14 _) (by decide) (.head _)
            simp [go_sem, ↓IntWalk.iteOmega, ev e14, dneg, hsub, hsub2, d1]
            with_reducible rfl
          apply Build.detg 16 Ext.refl (by rfl) (by rfl) rfl rfl
          case h =>
            intro ax wx hE hR hF
            have e4 : ax.eval (.tmp 4) = .pointer (some ⟨wr.heap.size, 0, none⟩) := hE.eval 4 (by rfl) rfl
            have e15 := hF 3 (det 15 _) (by decide) (.head _)
            refine ⟨e15, ?_⟩
            simp [go_sem, ↓IntWalk.iteOmega, ev e4, ev e15, dneg, hsub, hsub2, d1]
            with_reducible rfl
          apply Build.detg 17 Ext.refl (by rfl) (by rfl) rfl rfl
          case h =>
            intro ax wx hE hR hF
            have e15 := hF 3 (det 15 _) (by decide) (.tail _ (.head _))
            have e16 := hF 4 (det 16 _) (by decide) (.head _)
            have hX2 := HX.out.ext hR; have q0 := hX2.cell 0; have q1 := hX2.cell 1; obtain ⟨p0, p1⟩ := HP.out _ hR
            refine ⟨e15, ?_⟩
            simp [go_sem, ↓IntWalk.iteOmega, ev e15, ev e16, dneg, hsub, hsub2, d1, q0, q1, p0, p1]
            with_reducible rfl
          apply Build.detg 18 Ext.refl (by rfl) (by rfl) rfl rfl
          case h =>
            intro ax wx hE hR hF
            have e15 := hF 3 (det 15 _) (by decide) (.tail _ (.tail _ (.head _)))
            have e17 := hF 5 (det 17 _) (by decide) (.head _)
            refine ⟨e15, ?_⟩
            simp [go_sem, ↓IntWalk.iteOmega, ev e15, ev e17, dneg, hsub, hsub2, d1]
            with_reducible rfl
          apply Build.det 19 Ext.refl (by rfl) (by rfl) rfl
          case h =>
            intro ax wx hE hR hF
            have e15 := hF 3 (det 15 _) (by decide) (.tail _ (.tail _ (.tail _ (.head _))))
            have e18 := hF 6 (det 18 _) (by decide) (.head _)
            simp [go_sem, ↓IntWalk.iteOmega, ev e15, ev e18, dneg, hsub, hsub2, d1]
            with_reducible rfl
          apply Build.det 20 Ext.refl (by rfl) (by rfl) rfl
          case h =>
            intro ax wx hE hR hF
            have e19 := hF 7 (det 19 _) (by decide) (.head _)
            simp [go_sem, ↓IntWalk.iteOmega, ev e19, dneg, hsub, hsub2, d1]
            with_reducible rfl
          refine Build.skip 21 (by rfl) (by rfl) rfl rfl ?_ ?_
          · intro ax wx hE hR hF
            have e20 := hF 8 (det 20 _) (by decide) (.head _)
            exact e20
          refine Build.skip 22 (by rfl) (by rfl) rfl rfl ?_ ?_
          · intro ax wx hE hR hF
            have e20 := hF 8 (det 20 _) (by decide) (.tail _ (.head _))
            exact e20
          refine Build.skip 23 (by rfl) (by rfl) rfl rfl ?_ ?_
          · intro ax wx hE hR hF
            have e20 := hF 8 (det 20 _) (by decide) (.tail _ (.tail _ (.head _)))
            exact e20
          refine Build.skip 24 (by rfl) (by rfl) rfl rfl ?_ ?_
          · intro ax wx hE hR hF
            have e20 := hF 8 (det 20 _) (by decide) (.tail _ (.tail _ (.tail _ (.head _))))
            exact e20
          apply Build.det 25 Ext.refl (by rfl) (by rfl) rfl
          case h =>
            intro ax wx hE hR hF
            have e20 := hF 8 (det 20 _) (by decide) (mem4 (.head _))
            have e24 := hF 12 (det 24 _) (by decide) (.head _)
            simp [go_sem, ↓IntWalk.iteOmega, ev e20, ev e24, dneg, hsub, hsub2, d1]
            with_reducible rfl
          apply Build.det 26 Ext.refl (by rfl) (by rfl) rfl
          case h =>
            intro ax wx hE hR hF
            have e25 := hF 13 (det 25 _) (by decide) (.head _)
            simp [go_sem, ↓IntWalk.iteOmega, ev e25, dneg, hsub, hsub2, d1]
            with_reducible rfl
          refine Build.skip 27 (by rfl) (by rfl) rfl rfl ?_ ?_
          · intro ax wx hE hR hF
            have e26 := hF 14 (det 26 _) (by decide) (.head _)
            exact e26
          refine Build.skip 28 (by rfl) (by rfl) rfl rfl ?_ ?_
          · intro ax wx hE hR hF
            have e26 := hF 14 (det 26 _) (by decide) (.tail _ (.head _))
            exact e26
          refine Build.skip 29 (by rfl) (by rfl) rfl rfl ?_ ?_
          · intro ax wx hE hR hF
            have e26 := hF 14 (det 26 _) (by decide) (.tail _ (.tail _ (.head _)))
            exact e26
          refine Build.skipu 30 (by rfl) (by rfl) rfl rfl ?_ ?_
          · intro ax wx hE hR hF
            have e29 := hF 17 (det 29 _) (by decide) (.head _)
            exact e29
          refine Build.skipu 31 (by rfl) (by rfl) rfl rfl ?_ ?_
          · intro ax wx hE hR hF
            have e29 := hF 17 (det 29 _) (by decide) (.tail _ (.head _))
            exact e29
          refine Build.skipu 32 (by rfl) (by rfl) rfl rfl ?_ ?_
          · intro ax wx hE hR hF
            have e29 := hF 17 (det 29 _) (by decide) (.tail _ (.tail _ (.head _)))
            exact e29
          refine Build.skipu 33 (by rfl) (by rfl) rfl rfl ?_ ?_
          · intro ax wx hE hR hF
            have e29 := hF 17 (det 29 _) (by decide) (.tail _ (.tail _ (.tail _ (.head _))))
            exact e29
          refine Build.skipu 34 (by rfl) (by rfl) rfl rfl ?_ ?_
          · intro ax wx hE hR hF
            have e29 := hF 17 (det 29 _) (by decide) (mem4 (.head _))
            exact e29
          refine Build.skipu 35 (by rfl) (by rfl) rfl rfl ?_ ?_
          · intro ax wx hE hR hF
            have e29 := hF 17 (det 29 _) (by decide) (mem4 (.tail _ (.head _)))
            exact e29
          refine Build.skipu 36 (by rfl) (by rfl) rfl rfl ?_ ?_
          · intro ax wx hE hR hF
            have e29 := hF 17 (det 29 _) (by decide) (mem4 (.tail _ (.tail _ (.head _))))
            exact e29
          refine Build.skipu 37 (by rfl) (by rfl) rfl rfl ?_ ?_
          · intro ax wx hE hR hF
            have e29 := hF 17 (det 29 _) (by decide) (mem4 (.tail _ (.tail _ (.tail _ (.head _)))))
            exact e29
          refine Build.skipu 38 (by rfl) (by rfl) rfl rfl ?_ ?_
          · intro ax wx hE hR hF
            have e29 := hF 17 (det 29 _) (by decide) (mem4 (mem4 (.head _)))
            exact e29
          refine Build.skipu 39 (by rfl) (by rfl) rfl rfl ?_ ?_
          · intro ax wx hE hR hF
            have e29 := hF 17 (det 29 _) (by decide) (mem4 (mem4 (.tail _ (.head _))))
            exact e29
          refine Build.skipu 40 (by rfl) (by rfl) rfl rfl ?_ ?_
          · intro ax wx hE hR hF
            have e29 := hF 17 (det 29 _) (by decide) (mem4 (mem4 (.tail _ (.tail _ (.head _)))))
            exact e29
          refine Build.skipu 41 (by rfl) (by rfl) rfl rfl ?_ ?_
          · intro ax wx hE hR hF
            have e29 := hF 17 (det 29 _) (by decide) (mem4 (mem4 (.tail _ (.tail _ (.tail _ (.head _))))))
            exact e29
          refine Build.skipu 42 (by rfl) (by rfl) rfl rfl ?_ ?_
          · intro ax wx hE hR hF
            have e29 := hF 17 (det 29 _) (by decide) (mem4 (mem4 (mem4 (.head _))))
            exact e29
          refine Build.skipu 43 (by rfl) (by rfl) rfl rfl ?_ ?_
          · intro ax wx hE hR hF
            have e29 := hF 17 (det 29 _) (by decide) (mem4 (mem4 (mem4 (.tail _ (.head _)))))
            exact e29
          refine Build.skipu 44 (by rfl) (by rfl) rfl rfl ?_ ?_
          · intro ax wx hE hR hF
            have e29 := hF 17 (det 29 _) (by decide) (mem4 (mem4 (mem4 (.tail _ (.tail _ (.head _))))))
            exact e29
          refine Build.skipu 45 (by rfl) (by rfl) rfl rfl ?_ ?_
          · intro ax wx hE hR hF
            have e29 := hF 17 (det 29 _) (by decide) (mem4 (mem4 (mem4 (.tail _ (.tail _ (.tail _ (.head _)))))))
            exact e29
          refine Build.skip 46 (by rfl) (by rfl) rfl rfl ?_ ?_
          · intro ax wx hE hR hF
            have e26 := hF 14 (det 26 _) (by decide) (mem16 (.tail _ (.tail _ (.tail _ (.head _)))))
            exact e26
          apply Build.det 47 Ext.refl (by rfl) (by rfl) rfl
          case h =>
            intro ax wx hE hR hF
            have e26 := hF 14 (det 26 _) (by decide) (mem16 (mem4 (.head _)))
            have e46 := hF 34 (det 46 _) (by decide) (.head _)
            simp [go_sem, ↓IntWalk.iteOmega, ev e26, ev e46, dneg, hsub, hsub2, d1]
            with_reducible rfl
          apply Build.stop
          refine ⟨by kernel_rfl, .inl ⟨rfl, ?_⟩⟩
          intro ax w2 hE R2 hF
          have e12 := hF 0 (det 12 _) (mem16 (mem16 (.tail _ (.tail _ (.tail _ (.head _))))))
          have e13 := hF 1 (det 13 _) (mem16 (mem16 (.tail _ (.tail _ (.head _)))))
          have e14 := hF 2 (det 14 _) (mem16 (mem16 (.tail _ (.head _))))
          have e15 := hF 3 (det 15 _) (mem16 (mem16 (.head _)))
          have e16 := hF 4 (det 16 _) (mem16 (mem4 (mem4 (mem4 (.tail _ (.tail _ (.tail _ (.head _))))))))
          have e17 := hF 5 (det 17 _) (mem16 (mem4 (mem4 (mem4 (.tail _ (.tail _ (.head _)))))))
          have e18 := hF 6 (det 18 _) (mem16 (mem4 (mem4 (mem4 (.tail _ (.head _))))))
          have e19 := hF 7 (det 19 _) (mem16 (mem4 (mem4 (mem4 (.head _)))))
          have e20 := hF 8 (det 20 _) (mem16 (mem4 (mem4 (.tail _ (.tail _ (.tail _ (.head _)))))))
          have e21 := hF 9 (det 21 _) (mem16 (mem4 (mem4 (.tail _ (.tail _ (.head _))))))
          have e22 := hF 10 (det 22 _) (mem16 (mem4 (mem4 (.tail _ (.head _)))))
          have e23 := hF 11 (det 23 _) (mem16 (mem4 (mem4 (.head _))))
          have e24 := hF 12 (det 24 _) (mem16 (mem4 (.tail _ (.tail _ (.tail _ (.head _))))))
          have e25 := hF 13 (det 25 _) (mem16 (mem4 (.tail _ (.tail _ (.head _)))))
          have e26 := hF 14 (det 26 _) (mem16 (mem4 (.tail _ (.head _))))
          have e27 := hF 15 (det 27 _) (mem16 (mem4 (.head _)))
          have e28 := hF 16 (det 28 _) (mem16 (.tail _ (.tail _ (.tail _ (.head _)))))
          have e29 := hF 17 (det 29 _) (mem16 (.tail _ (.tail _ (.head _))))
          have e30 := hF 18 (det 30 _) (mem16 (.tail _ (.head _)))
          have e31 := hF 19 (det 31 _) (mem16 (.head _))
          have e32 := hF 20 (det 32 _) (mem4 (mem4 (mem4 (.tail _ (.tail _ (.tail _ (.head _)))))))
          have e33 := hF 21 (det 33 _) (mem4 (mem4 (mem4 (.tail _ (.tail _ (.head _))))))
          have e34 := hF 22 (det 34 _) (mem4 (mem4 (mem4 (.tail _ (.head _)))))
          have e35 := hF 23 (det 35 _) (mem4 (mem4 (mem4 (.head _))))
          have e36 := hF 24 (det 36 _) (mem4 (mem4 (.tail _ (.tail _ (.tail _ (.head _))))))
          have e37 := hF 25 (det 37 _) (mem4 (mem4 (.tail _ (.tail _ (.head _)))))
          have e38 := hF 26 (det 38 _) (mem4 (mem4 (.tail _ (.head _))))
          have e39 := hF 27 (det 39 _) (mem4 (mem4 (.head _)))
          have e40 := hF 28 (det 40 _) (mem4 (.tail _ (.tail _ (.tail _ (.head _)))))
          have e41 := hF 29 (det 41 _) (mem4 (.tail _ (.tail _ (.head _))))
          have e42 := hF 30 (det 42 _) (mem4 (.tail _ (.head _)))
          have e43 := hF 31 (det 43 _) (mem4 (.head _))
          have e44 := hF 32 (det 44 _) (.tail _ (.tail _ (.tail _ (.head _))))
          have e45 := hF 33 (det 45 _) (.tail _ (.tail _ (.head _)))
          have e46 := hF 34 (det 46 _) (.tail _ (.head _))
          have e47 := hF 35 (det 47 _) (.head _)
          rw [AllEq.frame (D := [12, 13, 14, 15, 16, 17, 18, 19, 20, 21, 22, 23, 24, 25, 26, 27, 28, 29, 30, 31, 32, 33, 34, 35, 36, 37, 38, 39, 40, 41, 42, 43, 44, 45, 46, 47]) (AllEq.cons e12 (AllEq.cons e13 (AllEq.cons e14 (AllEq.cons e15 (AllEq.cons e16 (AllEq.cons e17 (AllEq.cons e18 (AllEq.cons e19 (AllEq.cons e20 (AllEq.cons e21 (AllEq.cons e22 (AllEq.cons e23 (AllEq.cons e24 (AllEq.cons e25 (AllEq.cons e26 (AllEq.cons e27 (AllEq.cons e28 (AllEq.cons e29 (AllEq.cons e30 (AllEq.cons e31 (AllEq.cons e32 (AllEq.cons e33 (AllEq.cons e34 (AllEq.cons e35 (AllEq.cons e36 (AllEq.cons e37 (AllEq.cons e38 (AllEq.cons e39 (AllEq.cons e40 (AllEq.cons e41 (AllEq.cons e42 (AllEq.cons e43 (AllEq.cons e44 (AllEq.cons e45 (AllEq.cons e46 (AllEq.cons e47 (AllEq.nil))))))))))))))))))))))))))))))))))))) hE rfl]
          clear hF hE e12 e13 e14 e15 e16 e17 e18 e19 e20 e21 e22 e23 e24 e25 e26 e27 e28 e29 e30 e31 e32 e33 e34 e35 e36 e37 e38 e39 e40 e41 e42 e43 e44 e45 e46 e47
          simp only [List.foldl_cons, List.foldl_nil, Act.put, List.setIfInBounds_toArray, List.set_cons_succ, List.set_cons_zero]
          have hEx := hE1.trans R2
          have hG : Hid (GB = false) := HB.out HBAD
          go_wp2_with fail
          go_ret
          exact ⟨by rw [hG.out] <;> rfl, hEx⟩
        · have d1 := Z74 (show 0 < D.size by omega)
          by_cases h16 : D.size % 16 = 0
          · rw [decide_eq_true h16] at hiw
            have HW := Lib.hid hiw
            by_cases hle : K0 + Z < K
            · have dl : decide ((K : Int) - (Z : Int) ≤ (K0 : Int)) = false := by rw [decide_eq_false_iff_not]; omega
              have HOK : okX L (p + 1) := ⟨by rw [HD.out]; omega, by rw [HD.out]; exact h16, .inr (by rw [HK.out, show p + 1 - 1 = p from rfl, HK0.out, HZ0.out]; exact hle)⟩
              clear hiw he h16 hle
              refine Z06 (R := Ext) (w0 := w1) [[], [0], [0, 1], [0, 1, 2], [0, 1, 2, 3], [0, 1, 2, 3, 4], [0, 1, 2, 3, 4, 5], [0, 1, 2, 3, 4, 5, 6], [0, 1, 2, 3, 4, 5, 6, 7], [0, 1, 2, 3, 4, 5, 6, 7, 8], [0, 1, 2, 3, 4, 5, 6, 7, 8, 9], [0, 1, 2, 3, 4, 5, 6, 7, 8, 9, 10], [0, 1, 2, 3, 4, 5, 6, 7, 8, 9, 10, 11], [0, 1, 2, 3, 4, 5, 6, 7, 8, 9, 10, 11, 12], [0, 1, 2, 3, 4, 5, 6, 7, 8, 9, 10, 11, 12, 13], [0, 1, 2, 3, 4, 5, 6, 7, 8, 9, 10, 11, 12, 13, 14], [0, 1, 2, 3, 4, 5, 6, 7, 8, 9, 10, 11, 12, 13, 14, 15], [0, 1, 2, 3, 4, 5, 6, 7, 8, 9, 10, 11, 12, 13, 14, 15, 16], [0, 1, 2, 3, 4, 5, 6, 7, 8, 9, 10, 11, 12, 13, 14, 15, 16, 17], [0, 1, 2, 3, 4, 5, 6, 7, 8, 9, 10, 11, 12, 13, 14, 15, 16, 17, 18], [0, 1, 2, 3, 4, 5, 6, 7, 8, 9, 10, 11, 12, 13, 14, 15, 16, 17], [0, 1, 2, 3, 4, 5, 6, 7, 8, 9, 10, 11, 12, 13, 14, 15, 16, 17], [0, 1, 2, 3, 4, 5, 6, 7, 8, 9, 10, 11, 12, 13, 14, 15, 16, 17, 21], [0, 1, 2, 3, 4, 5, 6, 7, 8, 9, 10, 11, 12, 13, 14, 15, 16, 17, 20, 21, 22], [0, 1, 2, 3, 4, 5, 6, 7, 8, 9, 10, 11, 12, 13, 14, 15, 16, 17, 20, 21, 22, 23], [0, 1, 2, 3, 4, 5, 6, 7, 8, 9, 10, 11, 12, 13, 14, 15, 16, 17, 20, 21, 22, 23, 24], [0, 1, 2, 3, 4, 5, 6, 7, 8, 9, 10, 11, 12, 13, 14, 15, 16, 17, 18, 19, 20, 21, 22, 23, 24, 25], [0, 1, 2, 3, 4, 5, 6, 7, 8, 9, 10, 11, 12, 13, 14, 15, 16, 17], [0, 1, 2, 3, 4, 5, 6, 7, 8, 9, 10, 11, 12, 13, 14, 15, 16, 17], [0, 1, 2, 3, 4, 5, 6, 7, 8, 9, 10, 11, 12, 13, 14, 15, 16, 17, 28], [0, 1, 2, 3, 4, 5, 6, 7, 8, 9, 10, 11, 12, 13, 14, 15, 16, 17, 27, 28, 29], [0, 1, 2, 3, 4, 5, 6, 7, 8, 9, 10, 11, 12, 13, 14, 15, 16, 17, 27, 28, 29, 30], [0, 1, 2, 3, 4, 5, 6, 7, 8, 9, 10, 11, 12, 13, 14, 15, 16, 17, 27, 28, 29, 30, 31], [0, 1, 2, 3, 4, 5, 6, 7, 8, 9, 10, 11, 12, 13, 14, 15, 16, 17, 18, 19, 20, 21, 22, 23, 24, 25, 26, 27, 28, 29, 30, 31, 32], [0, 1, 2, 3, 4, 5, 6, 7, 8, 9, 10, 11, 12, 13, 14, 15, 16, 17, 18, 19, 20, 21, 22, 23, 24, 25, 26, 27, 28, 29, 30, 31, 32, 33], [0, 1, 2, 3, 4, 5, 6, 7, 8, 9, 10, 11, 12, 13, 14, 15, 16, 17, 18, 19, 20, 21, 22, 23, 24, 25, 26, 27, 28, 29, 30, 31, 32, 33, 34]] [12, 13, 14, 15, 16, 17, 18, 19, 20, 21, 22, 23, 24, 25, 26, 27, 28, 29, 30, 31, 32, 33, 34, 35, 36, 37, 38, 39, 40, 41, 42, 43, 44, 45, 46, 47] Ext.refl (fun _ _ _ => Ext.trans) (Ext.drew _) (by kernel_rfl) ?_
              apply Build.det 12 Ext.refl (by rfl) (by rfl) rfl
              case h =>
                intro ax wx hE hR hF
                have e4 : ax.eval (.tmp 4) = .pointer (some ⟨wr.heap.size, 0, none⟩) := hE.eval 4 (by rfl) rfl
                simp [go_sem, ↓IntWalk.iteOmega, ev e4, dneg, hsub, hsub2, d1, hwz, dl]
                with_reducible rfl
              apply Build.det 13 Ext.refl (by rfl) (by rfl) rfl
              case h =>
                intro ax wx hE hR hF
                have e12 := hF 0 (det 12 _) (by decide) (.head _)
                have hX2 := HX.out.ext hR; have q0 := hX2.cell 0; have q1 := hX2.cell 1; obtain ⟨p0, p1⟩ := HP.out _ hR
                simp [go_sem, ↓IntWalk.iteOmega, ev e12, dneg, hsub, hsub2, d1, hwz, dl, q0, q1, p0, p1]
                with_reducible rfl
              apply Build.det 14 Ext.refl (by rfl) (by rfl) rfl
              case h =>
                intro ax wx hE hR hF
                have e13 := hF 1 (det 13 _) (by decide) (.head _)
                simp [go_sem, ↓IntWalk.iteOmega, ev e13, dneg, hsub, hsub2, d1, hwz, dl]
                with_reducible rfl
              apply Build.det 15 Ext.refl (by rfl) (by rfl) rfl
              case h =>
                intro ax wx hE hR hF
                have e14 := hF 2 (det 14 _) (by decide) (.head _)
                simp [go_sem, ↓IntWalk.iteOmega, ev e14, dneg, hsub, hsub2, d1, hwz, dl]
                with_reducible rfl
              apply Build.detg 16 Ext.refl (by rfl) (by rfl) rfl rfl
              case h =>
                intro ax wx hE hR hF
                have e4 : ax.eval (.tmp 4) = .pointer (some ⟨wr.heap.size, 0, none⟩) := hE.eval 4 (by rfl) rfl
                have e15 := hF 3 (det 15 _) (by decide) (.head _)
                refine ⟨e15, ?_⟩
                simp [go_sem, ↓IntWalk.iteOmega, ev e4, ev e15, dneg, hsub, hsub2, d1, hwz, dl]
                with_reducible rfl
              apply Build.detg 17 Ext.refl (by rfl) (by rfl) rfl rfl
              case h =>
                intro ax wx hE hR hF
                have e15 := hF 3 (det 15 _) (by decide) (.tail _ (.head _))
                have e16 := hF 4 (det 16 _) (by decide) (.head _)
                have hX2 := HX.out.ext hR; have q0 := hX2.cell 0; have q1 := hX2.cell 1; obtain ⟨p0, p1⟩ := HP.out _ hR
                refine ⟨e15, ?_⟩
                simp [go_sem, ↓IntWalk.iteOmega, ev e15, ev e16, dneg, hsub, hsub2, d1, hwz, dl, q0, q1, p0, p1]
                with_reducible rfl
              apply Build.detg 18 Ext.refl (by rfl) (by rfl) rfl rfl
              case h =>
                intro ax wx hE hR hF
                have e15 := hF 3 (det 15 _) (by decide) (.tail _ (.tail _ (.head _)))
                have e17 := hF 5 (det 17 _) (by decide) (.head _)
                refine ⟨e15, ?_⟩
                simp [go_sem, ↓IntWalk.iteOmega, ev e15, ev e17, dneg, hsub, hsub2, d1, hwz, dl]
                with_reducible rfl
              apply Build.det 19 Ext.refl (by rfl) (by rfl) rfl
              case h =>
                intro ax wx hE hR hF
                have e15 := hF 3 (det 15 _) (by decide) (.tail _ (.tail _ (.tail _ (.head _))))
                have e18 := hF 6 (det 18 _) (by decide) (.head _)
                simp [go_sem, ↓IntWalk.iteOmega, ev e15, ev e18, dneg, hsub, hsub2, d1, hwz, dl]
                with_reducible rfl
              apply Build.det 20 Ext.refl (by rfl) (by rfl) rfl
              case h =>
                intro ax wx hE hR hF
                have e19 := hF 7 (det 19 _) (by decide) (.head _)
                simp [go_sem, ↓IntWalk.iteOmega, ev e19, dneg, hsub, hsub2, d1, hwz, dl]
                with_reducible rfl
              apply Build.detg 21 Ext.refl (by rfl) (by rfl) rfl rfl
              case h =>
                intro ax wx hE hR hF
                have e4 : ax.eval (.tmp 4) = .pointer (some ⟨wr.heap.size, 0, none⟩) := hE.eval 4 (by rfl) rfl
                have e20 := hF 8 (det 20 _) (by decide) (.head _)
                refine ⟨e20, ?_⟩
                simp [go_sem, ↓IntWalk.iteOmega, ev e4, ev e20, dneg, hsub, hsub2, d1, hwz, dl]
                with_reducible rfl
              apply Build.detg 22 Ext.refl (by rfl) (by rfl) rfl rfl
              case h =>
                intro ax wx hE hR hF
                have e20 := hF 8 (det 20 _) (by decide) (.tail _ (.head _))
                have e21 := hF 9 (det 21 _) (by decide) (.head _)
                have hX2 := HX.out.ext hR; have q0 := hX2.cell 0; have q1 := hX2.cell 1; obtain ⟨p0, p1⟩ := HP.out _ hR
                refine ⟨e20, ?_⟩
                simp [go_sem, ↓IntWalk.iteOmega, ev e20, ev e21, dneg, hsub, hsub2, d1, hwz, dl, q0, q1, p0, p1]
                with_reducible rfl
              apply Build.callg 23 Ext.refl (by rfl) (by rfl) rfl rfl
              case h =>
                intro ax wx hE hR hF
                have e20 := hF 8 (det 20 _) (by decide) (.tail _ (.tail _ (.head _)))
                have e22 := hF 10 (det 22 _) (by decide) (.head _)
                refine ⟨e20, ?_⟩
                simp [go_sem, ↓IntWalk.iteOmega, ev e20, ev e22, dneg, hsub, hsub2, d1, hwz, dl]
                with_reducible exact ⟨rfl, rfl⟩
              case hc => intro wx hR; with_reducible exact HW.out wx
              apply Build.detg 24 Ext.refl (by rfl) (by rfl) rfl rfl
              case h =>
                intro ax wx hE hR hF
                have e20 := hF 8 (det 20 _) (by decide) (.tail _ (.tail _ (.tail _ (.head _))))
                have e23 := hF 11 (det 23 _) (by decide) (.head _)
                refine ⟨e20, ?_⟩
                simp [go_sem, ↓IntWalk.iteOmega, ev e20, ev e23, dneg, hsub, hsub2, d1, hwz, dl]
                with_reducible rfl
              apply Build.det 25 Ext.refl (by rfl) (by rfl) rfl
              case h =>
                intro ax wx hE hR hF
                have e20 := hF 8 (det 20 _) (by decide) (mem4 (.head _))
                have e24 := hF 12 (det 24 _) (by decide) (.head _)
                simp [go_sem, ↓IntWalk.iteOmega, ev e20, ev e24, dneg, hsub, hsub2, d1, hwz, dl]
                with_reducible rfl
              apply Build.det 26 Ext.refl (by rfl) (by rfl) rfl
              case h =>
                intro ax wx hE hR hF
                have e25 := hF 13 (det 25 _) (by decide) (.head _)
                simp [go_sem, ↓IntWalk.iteOmega, ev e25, dneg, hsub, hsub2, d1, hwz, dl]
                with_reducible rfl
              apply Build.detg 27 Ext.refl (by rfl) (by rfl) rfl rfl
              case h =>
                intro ax wx hE hR hF
                have e3 : ax.eval (.tmp 3) = .int .i64 (((p + 1 : Nat) : Int)) := hE.eval 3 (by rfl) rfl
                have e26 := hF 14 (det 26 _) (by decide) (.head _)
                refine ⟨e26, ?_⟩
                simp [go_sem, ↓IntWalk.iteOmega, ev e3, ev e26, dneg, hsub, hsub2, d1, hwz, dl]
                with_reducible rfl
              apply Build.detg 28 Ext.refl (by rfl) (by rfl) rfl rfl
              case h =>
                intro ax wx hE hR hF
                have e26 := hF 14 (det 26 _) (by decide) (.tail _ (.head _))
                have e27 := hF 15 (det 27 _) (by decide) (.head _)
                refine ⟨e26, ?_⟩
                simp [go_sem, ↓IntWalk.iteOmega, ev e26, ev e27, dneg, hsub, hsub2, d1, hwz, dl]
                with_reducible rfl
              apply Build.detg 29 Ext.refl (by rfl) (by rfl) rfl rfl
              case h =>
                intro ax wx hE hR hF
                have e26 := hF 14 (det 26 _) (by decide) (.tail _ (.tail _ (.head _)))
                have e28 := hF 16 (det 28 _) (by decide) (.head _)
                refine ⟨e26, ?_⟩
                simp [go_sem, ↓IntWalk.iteOmega, ev e26, ev e28, dneg, hsub, hsub2, d1, hwz, dl]
                with_reducible rfl
              apply Build.detg 30 Ext.refl (by rfl) (by rfl) rfl rfl
              case h =>
                intro ax wx hE hR hF
                have e4 : ax.eval (.tmp 4) = .pointer (some ⟨wr.heap.size, 0, none⟩) := hE.eval 4 (by rfl) rfl
                have e29 := hF 17 (det 29 _) (by decide) (.head _)
                refine ⟨e29, ?_⟩
                simp [go_sem, ↓IntWalk.iteOmega, ev e4, ev e29, dneg, hsub, hsub2, d1, hwz, dl]
                with_reducible rfl
              apply Build.detg 31 Ext.refl (by rfl) (by rfl) rfl rfl
              case h =>
                intro ax wx hE hR hF
                have e29 := hF 17 (det 29 _) (by decide) (.tail _ (.head _))
                have e30 := hF 18 (det 30 _) (by decide) (.head _)
                have hX2 := HX.out.ext hR; have q0 := hX2.cell 0; have q1 := hX2.cell 1; obtain ⟨p0, p1⟩ := HP.out _ hR
                refine ⟨e29, ?_⟩
                simp [go_sem, ↓IntWalk.iteOmega, ev e29, ev e30, dneg, hsub, hsub2, d1, hwz, dl, q0, q1, p0, p1]
                with_reducible rfl
              apply Build.detg 32 Ext.refl (by rfl) (by rfl) rfl rfl
              case h =>
                intro ax wx hE hR hF
                have e0 : ax.eval (.tmp 0) = .slice (some ⟨b0, o0, none⟩) len cap := hE.eval 0 (by rfl) rfl
                have e29 := hF 17 (det 29 _) (by decide) (.tail _ (.tail _ (.head _)))
                refine ⟨e29, ?_⟩
                simp [go_sem, ↓IntWalk.iteOmega, ev e0, ev e29, dneg, hsub, hsub2, d1, hwz, dl]
                with_reducible rfl
              apply Build.detg 33 Ext.refl (by rfl) (by rfl) rfl rfl
              case h =>
                intro ax wx hE hR hF
                have e3 : ax.eval (.tmp 3) = .int .i64 (((p + 1 : Nat) : Int)) := hE.eval 3 (by rfl) rfl
                have e29 := hF 17 (det 29 _) (by decide) (.tail _ (.tail _ (.tail _ (.head _))))
                refine ⟨e29, ?_⟩
                simp [go_sem, ↓IntWalk.iteOmega, ev e3, ev e29, dneg, hsub, hsub2, d1, hwz, dl]
                with_reducible rfl
              apply Build.detg 34 Ext.refl (by rfl) (by rfl) rfl rfl
              case h =>
                intro ax wx hE hR hF
                have e29 := hF 17 (det 29 _) (by decide) (mem4 (.head _))
                have e33 := hF 21 (det 33 _) (by decide) (.head _)
                refine ⟨e29, ?_⟩
                simp [go_sem, ↓IntWalk.iteOmega, ev e29, ev e33, dneg, hsub, hsub2, d1, hwz, dl]
                with_reducible rfl
              apply Build.detg 35 Ext.refl (by rfl) (by rfl) rfl rfl
              case h =>
                intro ax wx hE hR hF
                have e29 := hF 17 (det 29 _) (by decide) (mem4 (.tail _ (.head _)))
                have e32 := hF 20 (det 32 _) (by decide) (.tail _ (.tail _ (.head _)))
                have e34 := hF 22 (det 34 _) (by decide) (.head _)
                refine ⟨e29, ?_⟩
                simp [go_sem, ↓IntWalk.iteOmega, ev e29, ev e32, ev e34, dneg, hsub, hsub2, d1, hwz, dl]
                with_reducible rfl
              apply Build.detg 36 Ext.refl (by rfl) (by rfl) rfl rfl
              case h =>
                intro ax wx hE hR hF
                have e29 := hF 17 (det 29 _) (by decide) (mem4 (.tail _ (.tail _ (.head _))))
                have e35 := hF 23 (det 35 _) (by decide) (.head _)
                have hX2 := HX.out.ext hR; have q0 := hX2.cell 0; have q1 := hX2.cell 1; obtain ⟨p0, p1⟩ := HP.out _ hR
                refine ⟨e29, ?_⟩
                simp [go_sem, ↓IntWalk.iteOmega, ev e29, ev e35, dneg, hsub, hsub2, d1, hwz, dl, q0, q1, p0, p1]
                with_reducible rfl
              apply Build.callg 37 Ext.refl (by rfl) (by rfl) rfl rfl
              case h =>
                intro ax wx hE hR hF
                have e29 := hF 17 (det 29 _) (by decide) (mem4 (.tail _ (.tail _ (.tail _ (.head _)))))
                have e36 := hF 24 (det 36 _) (by decide) (.head _)
                refine ⟨e29, ?_⟩
                simp [go_sem, ↓IntWalk.iteOmega, ev e29, ev e36, dneg, hsub, hsub2, d1, hwz, dl]
                with_reducible exact ⟨rfl, rfl⟩
              case hc => intro wx hR; with_reducible exact HZ.out wx
              apply Build.detg 38 Ext.refl (by rfl) (by rfl) rfl rfl
              case h =>
                intro ax wx hE hR hF
                have e29 := hF 17 (det 29 _) (by decide) (mem4 (mem4 (.head _)))
                have e31 := hF 19 (det 31 _) (by decide) (mem4 (.tail _ (.tail _ (.head _))))
                have e37 := hF 25 (det 37 _) (by decide) (.head _)
                refine ⟨e29, ?_⟩
                simp [go_sem, ↓IntWalk.iteOmega, ev e29, ev e31, ev e37, dneg, hsub, hsub2, d1, hwz, dl]
                with_reducible rfl
              apply Build.detg 39 Ext.refl (by rfl) (by rfl) rfl rfl
              case h =>
                intro ax wx hE hR hF
                have e0 : ax.eval (.tmp 0) = .slice (some ⟨b0, o0, none⟩) len cap := hE.eval 0 (by rfl) rfl
                have e29 := hF 17 (det 29 _) (by decide) (mem4 (mem4 (.tail _ (.head _))))
                refine ⟨e29, ?_⟩
                simp [go_sem, ↓IntWalk.iteOmega, ev e0, ev e29, dneg, hsub, hsub2, d1, hwz, dl]
                with_reducible rfl
              apply Build.detg 40 Ext.refl (by rfl) (by rfl) rfl rfl
              case h =>
                intro ax wx hE hR hF
                have e3 : ax.eval (.tmp 3) = .int .i64 (((p + 1 : Nat) : Int)) := hE.eval 3 (by rfl) rfl
                have e29 := hF 17 (det 29 _) (by decide) (mem4 (mem4 (.tail _ (.tail _ (.head _)))))
                refine ⟨e29, ?_⟩
                simp [go_sem, ↓IntWalk.iteOmega, ev e3, ev e29, dneg, hsub, hsub2, d1, hwz, dl]
                with_reducible rfl
              apply Build.detg 41 Ext.refl (by rfl) (by rfl) rfl rfl
              case h =>
                intro ax wx hE hR hF
                have e29 := hF 17 (det 29 _) (by decide) (mem4 (mem4 (.tail _ (.tail _ (.tail _ (.head _))))))
                have e40 := hF 28 (det 40 _) (by decide) (.head _)
                refine ⟨e29, ?_⟩
                simp [go_sem, ↓IntWalk.iteOmega, ev e29, ev e40, dneg, hsub, hsub2, d1, hwz, dl]
                with_reducible rfl
              apply Build.detg 42 Ext.refl (by rfl) (by rfl) rfl rfl
              case h =>
                intro ax wx hE hR hF
                have e29 := hF 17 (det 29 _) (by decide) (mem4 (mem4 (mem4 (.head _))))
                have e39 := hF 27 (det 39 _) (by decide) (.tail _ (.tail _ (.head _)))
                have e41 := hF 29 (det 41 _) (by decide) (.head _)
                refine ⟨e29, ?_⟩
                simp [go_sem, ↓IntWalk.iteOmega, ev e29, ev e39, ev e41, dneg, hsub, hsub2, d1, hwz, dl]
                with_reducible rfl
              apply Build.detg 43 Ext.refl (by rfl) (by rfl) rfl rfl
              case h =>
                intro ax wx hE hR hF
                have e29 := hF 17 (det 29 _) (by decide) (mem4 (mem4 (mem4 (.tail _ (.head _)))))
                have e42 := hF 30 (det 42 _) (by decide) (.head _)
                refine ⟨e29, ?_⟩
                simp [go_sem, ↓IntWalk.iteOmega, ev e29, ev e42, dneg, hsub, hsub2, d1, hwz, dl]
                with_reducible rfl
              apply Build.detg 44 Ext.refl (by rfl) (by rfl) rfl rfl
              case h =>
                intro ax wx hE hR hF
                have e29 := hF 17 (det 29 _) (by decide) (mem4 (mem4 (mem4 (.tail _ (.tail _ (.head _))))))
                have e43 := hF 31 (det 43 _) (by decide) (.head _)
                have hX2 := HX.out.ext hR; have q0 := hX2.cell 0; have q1 := hX2.cell 1; obtain ⟨p0, p1⟩ := HP.out _ hR
                refine ⟨e29, ?_⟩
                simp [go_sem, ↓IntWalk.iteOmega, ev e29, ev e43, dneg, hsub, hsub2, d1, hwz, dl, q0, q1, p0, p1]
                with_reducible rfl
              apply Build.detg 45 Ext.refl (by rfl) (by rfl) rfl rfl
              case h =>
                intro ax wx hE hR hF
                have e29 := hF 17 (det 29 _) (by decide) (mem4 (mem4 (mem4 (.tail _ (.tail _ (.tail _ (.head _)))))))
                have e38 := hF 26 (det 38 _) (by decide) (mem4 (.tail _ (.tail _ (.head _))))
                have e44 := hF 32 (det 44 _) (by decide) (.head _)
                refine ⟨e29, ?_⟩
                simp [go_sem, ↓IntWalk.iteOmega, ev e29, ev e38, ev e44, dneg, hsub, hsub2, d1, hwz, dl]
                with_reducible rfl
              apply Build.detg 46 Ext.refl (by rfl) (by rfl) rfl rfl
              case h =>
                intro ax wx hE hR hF
                have e26 := hF 14 (det 26 _) (by decide) (mem16 (.tail _ (.tail _ (.tail _ (.head _)))))
                have e29 := hF 17 (det 29 _) (by decide) (mem16 (.head _))
                have e45 := hF 33 (det 45 _) (by decide) (.head _)
                refine ⟨e26, ?_⟩
                simp [go_sem, ↓IntWalk.iteOmega, ev e26, ev e29, ev e45, dneg, hsub, hsub2, d1, hwz, dl]
                with_reducible rfl
              apply Build.det 47 Ext.refl (by rfl) (by rfl) rfl
              case h =>
                intro ax wx hE hR hF
                have e26 := hF 14 (det 26 _) (by decide) (mem16 (mem4 (.head _)))
                have e46 := hF 34 (det 46 _) (by decide) (.head _)
                simp [go_sem, ↓IntWalk.iteOmega, ev e26, ev e46, dneg, hsub, hsub2, d1, hwz, dl]
                with_reducible rfl
              apply Build.stop
              refine ⟨by kernel_rfl, .inl ⟨rfl, ?_⟩⟩
              intro ax w2 hE R2 hF
              have e12 := hF 0 (det 12 _) (mem16 (mem16 (.tail _ (.tail _ (.tail _ (.head _))))))
              have e13 := hF 1 (det 13 _) (mem16 (mem16 (.tail _ (.tail _ (.head _)))))
              have e14 := hF 2 (det 14 _) (mem16 (mem16 (.tail _ (.head _))))
              have e15 := hF 3 (det 15 _) (mem16 (mem16 (.head _)))
              have e16 := hF 4 (det 16 _) (mem16 (mem4 (mem4 (mem4 (.tail _ (.tail _ (.tail _ (.head _))))))))
              have e17 := hF 5 (det 17 _) (mem16 (mem4 (mem4 (mem4 (.tail _ (.tail _ (.head _)))))))
              have e18 := hF 6 (det 18 _) (mem16 (mem4 (mem4 (mem4 (.tail _ (.head _))))))
              have e19 := hF 7 (det 19 _) (mem16 (mem4 (mem4 (mem4 (.head _)))))
              have e20 := hF 8 (det 20 _) (mem16 (mem4 (mem4 (.tail _ (.tail _ (.tail _ (.head _)))))))
              have e21 := hF 9 (det 21 _) (mem16 (mem4 (mem4 (.tail _ (.tail _ (.head _))))))
              have e22 := hF 10 (det 22 _) (mem16 (mem4 (mem4 (.tail _ (.head _)))))
              have e23 := hF 11 (det 23 _) (mem16 (mem4 (mem4 (.head _))))
              have e24 := hF 12 (det 24 _) (mem16 (mem4 (.tail _ (.tail _ (.tail _ (.head _))))))
              have e25 := hF 13 (det 25 _) (mem16 (mem4 (.tail _ (.tail _ (.head _)))))
              have e26 := hF 14 (det 26 _) (mem16 (mem4 (.tail _ (.head _))))
              have e27 := hF 15 (det 27 _) (mem16 (mem4 (.head _)))
              have e28 := hF 16 (det 28 _) (mem16 (.tail _ (.tail _ (.tail _ (.head _)))))
              have e29 := hF 17 (det 29 _) (mem16 (.tail _ (.tail _ (.head _))))
              have e30 := hF 18 (det 30 _) (mem16 (.tail _ (.head _)))
              have e31 := hF 19 (det 31 _) (mem16 (.head _))
              have e32 := hF 20 (det 32 _) (mem4 (mem4 (mem4 (.tail _ (.tail _ (.tail _ (.head _)))))))
              have e33 := hF 21 (det 33 _) (mem4 (mem4 (mem4 (.tail _ (.tail _ (.head _))))))
              have e34 := hF 22 (det 34 _) (mem4 (mem4 (mem4 (.tail _ (.head _)))))
              have e35 := hF 23 (det 35 _) (mem4 (mem4 (mem4 (.head _))))
              have e36 := hF 24 (det 36 _) (mem4 (mem4 (.tail _ (.tail _ (.tail _ (.head _))))))
              have e37 := hF 25 (det 37 _) (mem4 (mem4 (.tail _ (.tail _ (.head _)))))
              have e38 := hF 26 (det 38 _) (mem4 (mem4 (.tail _ (.head _))))
              have e39 := hF 27 (det 39 _) (mem4 (mem4 (.head _)))
              have e40 := hF 28 (det 40 _) (mem4 (.tail _ (.tail _ (.tail _ (.head _)))))
              have e41 := hF 29 (det 41 _) (mem4 (.tail _ (.tail _ (.head _))))
              have e42 := hF 30 (det 42 _) (mem4 (.tail _ (.head _)))
              have e43 := hF 31 (det 43 _) (mem4 (.head _))
              have e44 := hF 32 (det 44 _) (.tail _ (.tail _ (.tail _ (.head _))))
              have e45 := hF 33 (det 45 _) (.tail _ (.tail _ (.head _)))
              have e46 := hF 34 (det 46 _) (.tail _ (.head _))
              have e47 := hF 35 (det 47 _) (.head _)
              rw [AllEq.frame (D := [12, 13, 14, 15, 16, 17, 18, 19, 20, 21, 22, 23, 24, 25, 26, 27, 28, 29, 30, 31, 32, 33, 34, 35, 36, 37, 38, 39, 40, 41, 42, 43, 44, 45, 46, 47]) (AllEq.cons e12 (AllEq.cons e13 (AllEq.cons e14 (AllEq.cons e15 (AllEq.cons e16 (AllEq.cons e17 (AllEq.cons e18 (AllEq.cons e19 (AllEq.cons e20 (AllEq.cons e21 (AllEq.cons e22 (AllEq.cons e23 (AllEq.cons e24 (AllEq.cons e25 (AllEq.cons e26 (AllEq.cons e27 (AllEq.cons e28 (AllEq.cons e29 (AllEq.cons e30 (AllEq.cons e31 (AllEq.cons e32 (AllEq.cons e33 (AllEq.cons e34 (AllEq.cons e35 (AllEq.cons e36 (AllEq.cons e37 (AllEq.cons e38 (AllEq.cons e39 (AllEq.cons e40 (AllEq.cons e41 (AllEq.cons e42 (AllEq.cons e43 (AllEq.cons e44 (AllEq.cons e45 (AllEq.cons e46 (AllEq.cons e47 (AllEq.nil))))))))))))))))))))))))))))))))))))) hE rfl]
              clear hF hE e12 e13 e14 e15 e16 e17 e18 e19 e20 e21 e22 e23 e24 e25 e26 e27 e28 e29 e30 e31 e32 e33 e34 e35 e36 e37 e38 e39 e40 e41 e42 e43 e44 e45 e46 e47
              simp only [List.foldl_cons, List.foldl_nil, Act.put, List.setIfInBounds_toArray, List.set_cons_succ, List.set_cons_zero]
              have hEx := hE1.trans R2
              go_wp2_with fail
              go_roundw
              case rel => exact ⟨_, by go_num, by omega, hEx, HS.out HOK⟩
              case measure => simp [intOf]; omega
            · have dl : decide ((K : Int) - (Z : Int) ≤ (K0 : Int)) = true := by rw [decide_eq_true_iff]; omega
              have HBAD : ¬ okX L (p + 1) := fun h => by have h1 := h.2.2; rw [HK.out, show p + 1 - 1 = p from rfl, HK0.out, HZ0.out] at h1; omega
              clear hiw he h16 hle
              refine Z06 (R := Ext) (w0 := w1) [[], [0], [0, 1], [0, 1, 2], [0, 1, 2, 3], [0, 1, 2, 3, 4], [0, 1, 2, 3, 4, 5], [0, 1, 2, 3, 4, 5, 6], [0, 1, 2, 3, 4, 5, 6, 7], [0, 1, 2, 3, 4, 5, 6, 7, 8], [0, 1, 2, 3, 4, 5, 6, 7, 8, 9], [0, 1, 2, 3, 4, 5, 6, 7, 8, 9, 10], [0, 1, 2, 3, 4, 5, 6, 7, 8, 9, 10, 11], [0, 1, 2, 3, 4, 5, 6, 7, 8, 9, 10, 11, 12], [0, 1, 2, 3, 4, 5, 6, 7, 8, 9, 10, 11, 12, 13], [0, 1, 2, 3, 4, 5, 6, 7, 8, 9, 10, 11, 12, 13, 14], [0, 1, 2, 3, 4, 5, 6, 7, 8, 9, 10, 11, 12, 13, 14, 15], [0, 1, 2, 3, 4, 5, 6, 7, 8, 9, 10, 11, 12, 13, 14, 15, 16], [0, 1, 2, 3, 4, 5, 6, 7, 8, 9, 10, 11, 12, 13, 14, 15, 16, 17], [0, 1, 2, 3, 4, 5, 6, 7, 8, 9, 10, 11, 12, 13, 14, 15, 16, 17, 18], [0, 1, 2, 3, 4, 5, 6, 7, 8, 9, 10, 11, 12, 13, 14, 15, 16, 17], [0, 1, 2, 3, 4, 5, 6, 7, 8, 9, 10, 11, 12, 13, 14, 15, 16, 17], [0, 1, 2, 3, 4, 5, 6, 7, 8, 9, 10, 11, 12, 13, 14, 15, 16, 17, 21], [0, 1, 2, 3, 4, 5, 6, 7, 8, 9, 10, 11, 12, 13, 14, 15, 16, 17, 20, 21, 22], [0, 1, 2, 3, 4, 5, 6, 7, 8, 9, 10, 11, 12, 13, 14, 15, 16, 17, 20, 21, 22, 23], [0, 1, 2, 3, 4, 5, 6, 7, 8, 9, 10, 11, 12, 13, 14, 15, 16, 17, 20, 21, 22, 23, 24], [0, 1, 2, 3, 4, 5, 6, 7, 8, 9, 10, 11, 12, 13, 14, 15, 16, 17, 18, 19, 20, 21, 22, 23, 24, 25], [0, 1, 2, 3, 4, 5, 6, 7, 8, 9, 10, 11, 12, 13, 14, 15, 16, 17], [0, 1, 2, 3, 4, 5, 6, 7, 8, 9, 10, 11, 12, 13, 14, 15, 16, 17], [0, 1, 2, 3, 4, 5, 6, 7, 8, 9, 10, 11, 12, 13, 14, 15, 16, 17, 28], [0, 1, 2, 3, 4, 5, 6, 7, 8, 9, 10, 11, 12, 13, 14, 15, 16, 17, 27, 28, 29], [0, 1, 2, 3, 4, 5, 6, 7, 8, 9, 10, 11, 12, 13, 14, 15, 16, 17, 27, 28, 29, 30], [0, 1, 2, 3, 4, 5, 6, 7, 8, 9, 10, 11, 12, 13, 14, 15, 16, 17, 27, 28, 29, 30, 31], [0, 1, 2, 3, 4, 5, 6, 7, 8, 9, 10, 11, 12, 13, 14, 15, 16, 17, 18, 19, 20, 21, 22, 23, 24, 25, 26, 27, 28, 29, 30, 31, 32], [0, 1, 2, 3, 4, 5, 6, 7, 8, 9, 10, 11, 12, 13, 14, 15, 16, 17, 18, 19, 20, 21, 22, 23, 24, 25, 26, 27, 28, 29, 30, 31, 32, 33], [0, 1, 2, 3, 4, 5, 6, 7, 8, 9, 10, 11, 12, 13, 14, 15, 16, 17, 18, 19, 20, 21, 22, 23, 24, 25, 26, 27, 28, 29, 30, 31, 32, 33, 34]] [12, 13, 14, 15, 16, 17, 18, 19, 20, 21, 22, 23, 24, 25, 26, 27, 28, 29, 30, 31, 32, 33, 34, 35, 36, 37, 38, 39, 40, 41, 42, 43, 44, 45, 46, 47] Ext.refl (fun _ _ _ => Ext.trans) (Ext.drew _) (by kernel_rfl) ?_
              apply Build.det 12 Ext.refl (by rfl) (by rfl) rfl
              case h =>
                intro ax wx hE hR hF
                have e4 : ax.eval (.tmp 4) = .pointer (some ⟨wr.heap.size, 0, none⟩) := hE.eval 4 (by rfl) rfl
                simp [go_sem, ↓IntWalk.iteOmega, ev e4, dneg, hsub, hsub2, d1, hwz, dl]
                with_reducible rfl
              apply Build.det 13 Ext.refl (by rfl) (by rfl) rfl
              case h =>
                intro ax wx hE hR hF
                have e12 := hF 0 (det 12 _) (by decide) (.head _)
                have hX2 := HX.out.ext hR; have q0 := hX2.cell 0; have q1 := hX2.cell 1; obtain ⟨p0, p1⟩ := HP.out _ hR
                simp [go_sem, ↓IntWalk.iteOmega, ev e12, dneg, hsub, hsub2, d1, hwz, dl, q0, q1, p0, p1]
                with_reducible rfl
              apply Build.det 14 Ext.refl (by rfl) (by rfl) rfl
              case h =>
                intro ax wx hE hR hF
                have e13 := hF 1 (det 13 _) (by decide) (.head _)
                simp [go_sem, ↓IntWalk.iteOmega, ev e13, dneg, hsub, hsub2, d1, hwz, dl]
                with_reducible rfl
              apply Build.det 15 Ext.refl (by rfl) (by rfl) rfl
              case h =>
                intro ax wx hE hR hF
                have e14 := hF 2 (det 14 _) (by decide) (.head _)
                simp [go_sem, ↓IntWalk.iteOmega, ev e14, dneg, hsub, hsub2, d1, hwz, dl]
                with_reducible rfl
              apply Build.detg 16 Ext.refl (by rfl) (by rfl) rfl rfl
              case h =>
                intro ax wx hE hR hF
                have e4 : ax.eval (.tmp 4) = .pointer (some ⟨wr.heap.size, 0, none⟩) := hE.eval 4 (by rfl) rfl
                have e15 := hF 3 (det 15 _) (by decide) (.head _)
                refine ⟨e15, ?_⟩
                simp [go_sem, ↓IntWalk.iteOmega, ev e4, ev e15, dneg, hsub, hsub2, d1, hwz, dl]
                with_reducible rfl
              apply Build.detg 17 Ext.refl (by rfl) (by rfl) rfl rfl
              case h =>
                intro ax wx hE hR hF
                have e15 := hF 3 (det 15 _) (by decide) (.tail _ (.head _))
                have e16 := hF 4 (det 16 _) (by decide) (.head _)
                have hX2 := HX.out.ext hR; have q0 := hX2.cell 0; have q1 := hX2.cell 1; obtain ⟨p0, p1⟩ := HP.out _ hR
                refine ⟨e15, ?_⟩
                simp [go_sem, ↓IntWalk.iteOmega, ev e15, ev e16, dneg, hsub, hsub2, d1, hwz, dl, q0, q1, p0, p1]
                with_reducible rfl
              apply Build.detg 18 Ext.refl (by rfl) (by rfl) rfl rfl
              case h =>
                intro ax wx hE hR hF
                have e15 := hF 3 (det 15 _) (by decide) (.tail _ (.tail _ (.head _)))
                have e17 := hF 5 (det 17 _) (by decide) (.head _)
                refine ⟨e15, ?_⟩
                simp [go_sem, ↓IntWalk.iteOmega, ev e15, ev e17, dneg, hsub, hsub2, d1, hwz, dl]
                with_reducible rfl
              apply Build.det 19 Ext.refl (by rfl) (by rfl) rfl
              case h =>
                intro ax wx hE hR hF
                have e15 := hF 3 (det 15 _) (by decide) (.tail _ (.tail _ (.tail _ (.head _))))
                have e18 := hF 6 (det 18 _) (by decide) (.head _)
                simp [go_sem, ↓IntWalk.iteOmega, ev e15, ev e18, dneg, hsub, hsub2, d1, hwz, dl]
                with_reducible rfl
              apply Build.det 20 Ext.refl (by rfl) (by rfl) rfl
              case h =>
                intro ax wx hE hR hF
                have e19 := hF 7 (det 19 _) (by decide) (.head _)
                simp [go_sem, ↓IntWalk.iteOmega, ev e19, dneg, hsub, hsub2, d1, hwz, dl]
                with_reducible rfl
              apply Build.detg 21 Ext.refl (by rfl) (by rfl) rfl rfl
              case h =>
                intro ax wx hE hR hF
                have e4 : ax.eval (.tmp 4) = .pointer (some ⟨wr.heap.size, 0, none⟩) := hE.eval 4 (by rfl) rfl
                have e20 := hF 8 (det 20 _) (by decide) (.head _)
                refine ⟨e20, ?_⟩
                simp [go_sem, ↓IntWalk.iteOmega, ev e4, ev e20, dneg, hsub, hsub2, d1, hwz, dl]
                with_reducible rfl
              apply Build.detg 22 Ext.refl (by rfl) (by rfl) rfl rfl
              case h =>
                intro ax wx hE hR hF
                have e20 := hF 8 (det 20 _) (by decide) (.tail _ (.head _))
                have e21 := hF 9 (det 21 _) (by decide) (.head _)
                have hX2 := HX.out.ext hR; have q0 := hX2.cell 0; have q1 := hX2.cell 1; obtain ⟨p0, p1⟩ := HP.out _ hR
                refine ⟨e20, ?_⟩
                simp [go_sem, ↓IntWalk.iteOmega, ev e20, ev e21, dneg, hsub, hsub2, d1, hwz, dl, q0, q1, p0, p1]
                with_reducible rfl
              apply Build.callg 23 Ext.refl (by rfl) (by rfl) rfl rfl
              case h =>
                intro ax wx hE hR hF
                have e20 := hF 8 (det 20 _) (by decide) (.tail _ (.tail _ (.head _)))
                have e22 := hF 10 (det 22 _) (by decide) (.head _)
                refine ⟨e20, ?_⟩
                simp [go_sem, ↓IntWalk.iteOmega, ev e20, ev e22, dneg, hsub, hsub2, d1, hwz, dl]
                with_reducible exact ⟨rfl, rfl⟩
              case hc => intro wx hR; with_reducible exact HW.out wx
              apply Build.detg 24 Ext.refl (by rfl) (by rfl) rfl rfl
              case h =>
                intro ax wx hE hR hF
                have e20 := hF 8 (det 20 _) (by decide) (.tail _ (.tail _ (.tail _ (.head _))))
                have e23 := hF 11 (det 23 _) (by decide) (.head _)
                refine ⟨e20, ?_⟩
                simp [go_sem, ↓IntWalk.iteOmega, ev e20, ev e23, dneg, hsub, hsub2, d1, hwz, dl]
                with_reducible rfl
              apply Build.det 25 Ext.refl (by rfl) (by rfl) rfl
              case h =>
                intro ax wx hE hR hF
                have e20 := hF 8 (det 20 _) (by decide) (mem4 (.head _))
                have e24 := hF 12 (det 24 _) (by decide) (.head _)
                simp [go_sem, ↓IntWalk.iteOmega, ev e20, ev e24, dneg, hsub, hsub2, d1, hwz, dl]
                with_reducible rfl
              apply Build.det 26 Ext.refl (by rfl) (by rfl) rfl
              case h =>
                intro ax wx hE hR hF
                have e25 := hF 13 (det 25 _) (by decide) (.head _)
                simp [go_sem, ↓IntWalk.iteOmega, ev e25, dneg, hsub, hsub2, d1, hwz, dl]
                with_reducible rfl
              apply Build.detg 27 Ext.refl (by rfl) (by rfl) rfl rfl
              case h =>
                intro ax wx hE hR hF
                have e3 : ax.eval (.tmp 3) = .int .i64 (((p + 1 : Nat) : Int)) := hE.eval 3 (by rfl) rfl
                have e26 := hF 14 (det 26 _) (by decide) (.head _)
                refine ⟨e26, ?_⟩
                simp [go_sem, ↓IntWalk.iteOmega, ev e3, ev e26, dneg, hsub, hsub2, d1, hwz, dl]
                with_reducible rfl
              apply Build.detg 28 Ext.refl (by rfl) (by rfl) rfl rfl
              case h =>
                intro ax wx hE hR hF
                have e26 := hF 14 (det 26 _) (by decide) (.tail _ (.head _))
                have e27 := hF 15 (det 27 _) (by decide) (.head _)
                refine ⟨e26, ?_⟩
                simp [go_sem, ↓IntWalk.iteOmega, ev e26, ev e27, dneg, hsub, hsub2, d1, hwz, dl]
                with_reducible rfl
              apply Build.detg 29 Ext.refl (by rfl) (by rfl) rfl rfl
              case h =>
                intro ax wx hE hR hF
                have e26 := hF 14 (det 26 _) (by decide) (.tail _ (.tail _ (.head _)))
                have e28 := hF 16 (det 28 _) (by decide) (.head _)
                refine ⟨e26, ?_⟩
                simp [go_sem, ↓IntWalk.iteOmega, ev e26, ev e28, dneg, hsub, hsub2, d1, hwz, dl]
                with_reducible rfl
              apply Build.detg 30 Ext.refl (by rfl) (by rfl) rfl rfl
              case h =>
                intro ax wx hE hR hF
                have e4 : ax.eval (.tmp 4) = .pointer (some ⟨wr.heap.size, 0, none⟩) := hE.eval 4 (by rfl) rfl
                have e29 := hF 17 (det 29 _) (by decide) (.head _)
                refine ⟨e29, ?_⟩
                simp [go_sem, ↓IntWalk.iteOmega, ev e4, ev e29, dneg, hsub, hsub2, d1, hwz, dl]
                with_reducible rfl
              apply Build.detg 31 Ext.refl (by rfl) (by rfl) rfl rfl
              case h =>
                intro ax wx hE hR hF
                have e29 := hF 17 (det 29 _) (by decide) (.tail _ (.head _))
                have e30 := hF 18 (det 30 _) (by decide) (.head _)
                have hX2 := HX.out.ext hR; have q0 := hX2.cell 0; have q1 := hX2.cell 1; obtain ⟨p0, p1⟩ := HP.out _ hR
                refine ⟨e29, ?_⟩
                simp [go_sem, ↓IntWalk.iteOmega, ev e29, ev e30, dneg, hsub, hsub2, d1, hwz, dl, q0, q1, p0, p1]
                with_reducible rfl
              apply Build.detg 32 Ext.refl (by rfl) (by rfl) rfl rfl
              case h =>
                intro ax wx hE hR hF
                have e0 : ax.eval (.tmp 0) = .slice (some ⟨b0, o0, none⟩) len cap := hE.eval 0 (by rfl) rfl
                have e29 := hF 17 (det 29 _) (by decide) (.tail _ (.tail _ (.head _)))
                refine ⟨e29, ?_⟩
                simp [go_sem, ↓IntWalk.iteOmega, ev e0, ev e29, dneg, hsub, hsub2, d1, hwz, dl]
                with_reducible rfl
              apply Build.detg 33 Ext.refl (by rfl) (by rfl) rfl rfl
              case h =>
                intro ax wx hE hR hF
                have e3 : ax.eval (.tmp 3) = .int .i64 (((p + 1 : Nat) : Int)) := hE.eval 3 (by rfl) rfl
                have e29 := hF 17 (det 29 _) (by decide) (.tail _ (.tail _ (.tail _ (.head _))))
                refine ⟨e29, ?_⟩
                simp [go_sem, ↓IntWalk.iteOmega, ev e3, ev e29, dneg, hsub, hsub2, d1, hwz, dl]
                with_reducible rfl
              apply Build.detg 34 Ext.refl (by rfl) (by rfl) rfl rfl
              case h =>
                intro ax wx hE hR hF
                have e29 := hF 17 (det 29 _) (by decide) (mem4 (.head _))
                have e33 := hF 21 (det 33 _) (by decide) (.head _)
                refine ⟨e29, ?_⟩
                simp [go_sem, ↓IntWalk.iteOmega, ev e29, ev e33, dneg, hsub, hsub2, d1, hwz, dl]
                with_reducible rfl
              apply Build.detg 35 Ext.refl (by rfl) (by rfl) rfl rfl
              case h =>
                intro ax wx hE hR hF
                have e29 := hF 17 (det 29 _) (by decide) (mem4 (.tail _ (.head _)))
                have e32 := hF 20 (det 32 _) (by decide) (.tail _ (.tail _ (.head _)))
                have e34 := hF 22 (det 34 _) (by decide) (.head _)
                refine ⟨e29, ?_⟩
                simp [go_sem, ↓IntWalk.iteOmega, ev e29, ev e32, ev e34, dneg, hsub, hsub2, d1, hwz, dl]
                with_reducible rfl
              apply Build.detg 36 Ext.refl (by rfl) (by rfl) rfl rfl
              case h =>
                intro ax wx hE hR hF
                have e29 := hF 17 (det 29 _) (by decide) (mem4 (.tail _ (.tail _ (.head _))))
                have e35 := hF 23 (det 35 _) (by decide) (.head _)
                have hX2 := HX.out.ext hR; have q0 := hX2.cell 0; have q1 := hX2.cell 1; obtain ⟨p0, p1⟩ := HP.out _ hR
                refine ⟨e29, ?_⟩
                simp [go_sem, ↓IntWalk.iteOmega, ev e29, ev e35, dneg, hsub, hsub2, d1, hwz, dl, q0, q1, p0, p1]
                with_reducible rfl
              apply Build.callg 37 Ext.refl (by rfl) (by rfl) rfl rfl
              case h =>
                intro ax wx hE hR hF
                have e29 := hF 17 (det 29 _) (by decide) (mem4 (.tail _ (.tail _ (.tail _ (.head _)))))
                have e36 := hF 24 (det 36 _) (by decide) (.head _)
                refine ⟨e29, ?_⟩
                simp [go_sem, ↓IntWalk.iteOmega, ev e29, ev e36, dneg, hsub, hsub2, d1, hwz, dl]
                with_reducible exact ⟨rfl, rfl⟩
              case hc => intro wx hR; with_reducible exact HZ.out wx
              apply Build.detg 38 Ext.refl (by rfl) (by rfl) rfl rfl
              case h =>
                intro ax wx hE hR hF
                have e29 := hF 17 (det 29 _) (by decide) (mem4 (mem4 (.head _)))
                have e31 := hF 19 (det 31 _) (by decide) (mem4 (.tail _ (.tail _ (.head _))))
                have e37 := hF 25 (det 37 _) (by decide) (.head _)
                refine ⟨e29, ?_⟩
                simp [go_sem, ↓IntWalk.iteOmega, ev e29, ev e31, ev e37, dneg, hsub, hsub2, d1, hwz, dl]
                with_reducible rfl
              apply Build.detg 39 Ext.refl (by rfl) (by rfl) rfl rfl
              case h =>
                intro ax wx hE hR hF
                have e0 : ax.eval (.tmp 0) = .slice (some ⟨b0, o0, none⟩) len cap := hE.eval 0 (by rfl) rfl
                have e29 := hF 17 (det 29 _) (by decide) (mem4 (mem4 (.tail _ (.head _))))
                refine ⟨e29, ?_⟩
                simp [go_sem, ↓IntWalk.iteOmega, ev e0, ev e29, dneg, hsub, hsub2, d1, hwz, dl]
                with_reducible rfl
              apply Build.detg 40 Ext.refl (by rfl) (by rfl) rfl rfl
              case h =>
                intro ax wx hE hR hF
                have e3 : ax.eval (.tmp 3) = .int .i64 (((p + 1 : Nat) : Int)) := hE.eval 3 (by rfl) rfl
                have e29 := hF 17 (det 29 _) (by decide) (mem4 (mem4 (.tail _ (.tail _ (.head _)))))
                refine ⟨e29, ?_⟩
                simp [go_sem, ↓IntWalk.iteOmega, ev e3, ev e29, dneg, hsub, hsub2, d1, hwz, dl]
                with_reducible rfl
              apply Build.detg 41 Ext.refl (by rfl) (by rfl) rfl rfl
              case h =>
                intro ax wx hE hR hF
                have e29 := hF 17 (det 29 _) (by decide) (mem4 (mem4 (.tail _ (.tail _ (.tail _ (.head _))))))
                have e40 := hF 28 (det 40 _) (by decide) (.head _)
                refine ⟨e29, ?_⟩
                simp [go_sem, ↓IntWalk.iteOmega, ev e29, ev e40, dneg, hsub, hsub2, d1, hwz, dl]
                with_reducible rfl
              apply Build.detg 42 Ext.refl (by rfl) (by rfl) rfl rfl
              case h =>
                intro ax wx hE hR hF
                have e29 := hF 17 (det 29 _) (by decide) (mem4 (mem4 (mem4 (.head _))))
                have e39 := hF 27 (det 39 _) (by decide) (.tail _ (.tail _ (.head _)))
                have e41 := hF 29 (det 41 _) (by decide) (.head _)
                refine ⟨e29, ?_⟩
                simp [go_sem, ↓IntWalk.iteOmega, ev e29, ev e39, ev e41, dneg, hsub, hsub2, d1, hwz, dl]
                with_reducible rfl
              apply Build.detg 43 Ext.refl (by rfl) (by rfl) rfl rfl
              case h =>
                intro ax wx hE hR hF
                have e29 := hF 17 (det 29 _) (by decide) (mem4 (mem4 (mem4 (.tail _ (.head _)))))
                have e42 := hF 30 (det 42 _) (by decide) (.head _)
                refine ⟨e29, ?_⟩
                simp [go_sem, ↓IntWalk.iteOmega, ev e29, ev e42, dneg, hsub, hsub2, d1, hwz, dl]
                with_reducible rfl
              apply Build.detg 44 Ext.refl (by rfl) (by rfl) rfl rfl
              case h =>
                intro ax wx hE hR hF
                have e29 := hF 17 (det 29 _) (by decide) (mem4 (mem4 (mem4 (.tail _ (.tail _ (.head _))))))
                have e43 := hF 31 (det 43 _) (by decide) (.head _)
                have hX2 := HX.out.ext hR; have q0 := hX2.cell 0; have q1 := hX2.cell 1; obtain ⟨p0, p1⟩ := HP.out _ hR
                refine ⟨e29, ?_⟩
                simp [go_sem, ↓IntWalk.iteOmega, ev e29, ev e43, dneg, hsub, hsub2, d1, hwz, dl, q0, q1, p0, p1]
                with_reducible rfl
              apply Build.detg 45 Ext.refl (by rfl) (by rfl) rfl rfl
              case h =>
                intro ax wx hE hR hF
                have e29 := hF 17 (det 29 _) (by decide) (mem4 (mem4 (mem4 (.tail _ (.tail _ (.tail _ (.head _)))))))
                have e38 := hF 26 (det 38 _) (by decide) (mem4 (.tail _ (.tail _ (.head _))))
                have e44 := hF 32 (det 44 _) (by decide) (.head _)
                refine ⟨e29, ?_⟩
                simp [go_sem, ↓IntWalk.iteOmega, ev e29, ev e38, ev e44, dneg, hsub, hsub2, d1, hwz, dl]
                with_reducible rfl
              apply Build.detg 46 Ext.refl (by rfl) (by rfl) rfl rfl
              case h =>
                intro ax wx hE hR hF
                have e26 := hF 14 (det 26 _) (by decide) (mem16 (.tail _ (.tail _ (.tail _ (.head _)))))
                have e29 := hF 17 (det 29 _) (by decide) (mem16 (.head _))
                have e45 := hF 33 (det 45 _) (by decide) (.head _)
                refine ⟨e26, ?_⟩
                simp [go_sem, ↓IntWalk.iteOmega, ev e26, ev e29, ev e45, dneg, hsub, hsub2, d1, hwz, dl]
                with_reducible rfl
              apply Build.det 47 Ext.refl (by rfl) (by rfl) rfl
              case h =>
                intro ax wx hE hR hF
                have e26 := hF 14 (det 26 _) (by decide) (mem16 (mem4 (.head _)))
                have e46 := hF 34 (det 46 _) (by decide) (.head _)
                simp [go_sem, ↓IntWalk.iteOmega, ev e26, ev e46, dneg, hsub, hsub2, d1, hwz, dl]
                with_reducible rfl
              apply Build.stop
              refine ⟨by kernel_rfl, .inl ⟨rfl, ?_⟩⟩
              intro ax w2 hE R2 hF
              have e12 := hF 0 (det 12 _) (mem16 (mem16 (.tail _ (.tail _ (.tail _ (.head _))))))
              have e13 := hF 1 (det 13 _) (mem16 (mem16 (.tail _ (.tail _ (.head _)))))
              have e14 := hF 2 (det 14 _) (mem16 (mem16 (.tail _ (.head _))))
              have e15 := hF 3 (det 15 _) (mem16 (mem16 (.head _)))
              have e16 := hF 4 (det 16 _) (mem16 (mem4 (mem4 (mem4 (.tail _ (.tail _ (.tail _ (.head _))))))))
              have e17 := hF 5 (det 17 _) (mem16 (mem4 (mem4 (mem4 (.tail _ (.tail _ (.head _)))))))
              have e18 := hF 6 (det 18 _) (mem16 (mem4 (mem4 (mem4 (.tail _ (.head _))))))
              have e19 := hF 7 (det 19 _) (mem16 (mem4 (mem4 (mem4 (.head _)))))
              have e20 := hF 8 (det 20 _) (mem16 (mem4 (mem4 (.tail _ (.tail _ (.tail _ (.head _)))))))
              have e21 := hF 9 (det 21 _) (mem16 (mem4 (mem4 (.tail _ (.tail _ (.head _))))))
              have e22 := hF 10 (det 22 _) (mem16 (mem4 (mem4 (.tail _ (.head _)))))
              have e23 := hF 11 (det 23 _) (mem16 (mem4 (mem4 (.head _))))
              have e24 := hF 12 (det 24 _) (mem16 (mem4 (.tail _ (.tail _ (.tail _ (.head _))))))
              have e25 := hF 13 (det 25 _) (mem16 (mem4 (.tail _ (.tail _ (.head _)))))
              have e26 := hF 14 (det 26 _) (mem16 (mem4 (.tail _ (.head _))))
              have e27 := hF 15 (det 27 _) (mem16 (mem4 (.head _)))
              have e28 := hF 16 (det 28 _) (mem16 (.tail _ (.tail _ (.tail _ (.head _)))))
              have e29 := hF 17 (det 29 _) (mem16 (.tail _ (.tail _ (.head _))))
              have e30 := hF 18 (det 30 _) (mem16 (.tail _ (.head _)))
              have e31 := hF 19 (det 31 _) (mem16 (.head _))
              have e32 := hF 20 (det 32 _) (mem4 (mem4 (mem4 (.tail _ (.tail _ (.tail _ (.head _)))))))
              have e33 := hF 21 (det 33 _) (mem4 (mem4 (mem4 (.tail _ (.tail _ (.head _))))))
              have e34 := hF 22 (det 34 _) (mem4 (mem4 (mem4 (.tail _ (.head _)))))
              have e35 := hF 23 (det 35 _) (mem4 (mem4 (mem4 (.head _))))
              have e36 := hF 24 (det 36 _) (mem4 (mem4 (.tail _ (.tail _ (.tail _ (.head _))))))
              have e37 := hF 25 (det 37 _) (mem4 (mem4 (.tail _ (.tail _ (.head _)))))
              have e38 := hF 26 (det 38 _) (mem4 (mem4 (.tail _ (.head _))))
              have e39 := hF 27 (det 39 _) (mem4 (mem4 (.head _)))
              have e40 := hF 28 (det 40 _) (mem4 (.tail _ (.tail _ (.tail _ (.head _)))))
              have e41 := hF 29 (det 41 _) (mem4 (.tail _ (.tail _ (.head _))))
              have e42 := hF 30 (det 42 _) (mem4 (.tail _ (.head _)))
              have e43 := hF 31 (det 43 _) (mem4 (.head _))
              have e44 := hF 32 (det 44 _) (.tail _ (.tail _ (.tail _ (.head _))))
              have e45 := hF 33 (det 45 _) (.tail _ (.tail _ (.head _)))
              have e46 := hF 34 (det 46 _) (.tail _ (.head _))
              have e47 := hF 35 (det 47 _) (.head _)
              rw [AllEq.frame (D := [12, 13, 14, 15, 16, 17, 18, 19, 20, 21, 22, 23, 24, 25, 26, 27, 28, 29, 30, 31, 32, 33, 34, 35, 36, 37, 38, 39, 40, 41, 42, 43, 44, 45, 46, 47]) (AllEq.cons e12 (AllEq.cons e13 (AllEq.cons e14 (AllEq.cons e15 (AllEq.cons e16 (AllEq.cons e17 (AllEq.cons e18 (AllEq.cons e19 (AllEq.cons e20 (AllEq.cons e21 (AllEq.cons e22 (AllEq.cons e23 (AllEq.cons e24 (AllEq.cons e25 (AllEq.cons e26 (AllEq.cons e27 (AllEq.cons e28 (AllEq.cons e29 (AllEq.cons e30 (AllEq.cons e31 (AllEq.cons e32 (AllEq.cons e33 (AllEq.cons e34 (AllEq.cons e35 (AllEq.cons e36 (AllEq.cons e37 (AllEq.cons e38 (AllEq.cons e39 (AllEq.cons e40 (AllEq.cons e41 (AllEq.cons e42 (AllEq.cons e43 (AllEq.cons e44 (AllEq.cons e45 (AllEq.cons e46 (AllEq.cons e47 (AllEq.nil))))))))))))))))))))))))))))))))))))) hE rfl]
              clear hF hE e12 e13 e14 e15 e16 e17 e18 e19 e20 e21 e22 e23 e24 e25 e26 e27 e28 e29 e30 e31 e32 e33 e34 e35 e36 e37 e38 e39 e40 e41 e42 e43 e44 e45 e46 e47
              simp only [List.foldl_cons, List.foldl_nil, Act.put, List.setIfInBounds_toArray, List.set_cons_succ, List.set_cons_zero]
              have hEx := hE1.trans R2
              have hG : Hid (GB = false) := HB.out HBAD
              go_wp2_with fail
              go_ret
              exact ⟨by rw [hG.out] <;> rfl, hEx⟩
          · rw [decide_eq_false h16] at hiw
            have HW := Lib.hid hiw
            have HBAD : ¬ okX L (p + 1) := fun h => by have h1 := h.2.1; rw [HD.out] at h1; omega
            clear hiw he h16
            refine Z06 (R := Ext) (w0 := w1) [[], [0], [0, 1], [0, 1, 2], [0, 1, 2, 3], [0, 1, 2, 3, 4], [0, 1, 2, 3, 4, 5], [0, 1, 2, 3, 4, 5, 6], [0, 1, 2, 3, 4, 5, 6, 7], [0, 1, 2, 3, 4, 5, 6, 7, 8], [0, 1, 2, 3, 4, 5, 6, 7, 8, 9], [0, 1, 2, 3, 4, 5, 6, 7, 8, 9, 10], [0, 1, 2, 3, 4, 5, 6, 7, 8, 9, 10, 11], [0, 1, 2, 3, 4, 5, 6, 7, 8, 9, 10, 11, 12], [0, 1, 2, 3, 4, 5, 6, 7, 8, 9, 10, 11, 12, 13], [0, 1, 2, 3, 4, 5, 6, 7, 8, 9, 10, 11, 12, 13, 14], [0, 1, 2, 3, 4, 5, 6, 7, 8, 9, 10, 11, 12, 13, 14, 15], [0, 1, 2, 3, 4, 5, 6, 7, 8, 9, 10, 11, 12, 13, 14, 15, 16], [0, 1, 2, 3, 4, 5, 6, 7, 8, 9, 10, 11, 12, 13, 14, 15, 16, 17], [0, 1, 2, 3, 4, 5, 6, 7, 8, 9, 10, 11, 12, 13, 14, 15, 16, 17, 18], [0, 1, 2, 3, 4, 5, 6, 7, 8, 9, 10, 11, 12, 13, 14, 15, 16, 17], [0, 1, 2, 3, 4, 5, 6, 7, 8, 9, 10, 11, 12, 13, 14, 15, 16, 17], [0, 1, 2, 3, 4, 5, 6, 7, 8, 9, 10, 11, 12, 13, 14, 15, 16, 17, 21], [0, 1, 2, 3, 4, 5, 6, 7, 8, 9, 10, 11, 12, 13, 14, 15, 16, 17, 20, 21, 22], [0, 1, 2, 3, 4, 5, 6, 7, 8, 9, 10, 11, 12, 13, 14, 15, 16, 17, 20, 21, 22, 23], [0, 1, 2, 3, 4, 5, 6, 7, 8, 9, 10, 11, 12, 13, 14, 15, 16, 17, 20, 21, 22, 23, 24], [0, 1, 2, 3, 4, 5, 6, 7, 8, 9, 10, 11, 12, 13, 14, 15, 16, 17, 18, 19, 20, 21, 22, 23, 24, 25], [0, 1, 2, 3, 4, 5, 6, 7, 8, 9, 10, 11, 12, 13, 14, 15, 16, 17], [0, 1, 2, 3, 4, 5, 6, 7, 8, 9, 10, 11, 12, 13, 14, 15, 16, 17], [0, 1, 2, 3, 4, 5, 6, 7, 8, 9, 10, 11, 12, 13, 14, 15, 16, 17, 28], [0, 1, 2, 3, 4, 5, 6, 7, 8, 9, 10, 11, 12, 13, 14, 15, 16, 17, 27, 28, 29], [0, 1, 2, 3, 4, 5, 6, 7, 8, 9, 10, 11, 12, 13, 14, 15, 16, 17, 27, 28, 29, 30], [0, 1, 2, 3, 4, 5, 6, 7, 8, 9, 10, 11, 12, 13, 14, 15, 16, 17, 27, 28, 29, 30, 31], [0, 1, 2, 3, 4, 5, 6, 7, 8, 9, 10, 11, 12, 13, 14, 15, 16, 17, 18, 19, 20, 21, 22, 23, 24, 25, 26, 27, 28, 29, 30, 31, 32], [0, 1, 2, 3, 4, 5, 6, 7, 8, 9, 10, 11, 12, 13, 14, 15, 16, 17, 18, 19, 20, 21, 22, 23, 24, 25, 26, 27, 28, 29, 30, 31, 32, 33], [0, 1, 2, 3, 4, 5, 6, 7, 8, 9, 10, 11, 12, 13, 14, 15, 16, 17, 18, 19, 20, 21, 22, 23, 24, 25, 26, 27, 28, 29, 30, 31, 32, 33, 34]] [12, 13, 14, 15, 16, 17, 18, 19, 20, 21, 22, 23, 24, 25, 26, 27, 28, 29, 30, 31, 32, 33, 34, 35, 36, 37, 38, 39, 40, 41, 42, 43, 44, 45, 46, 47] Ext.refl (fun _ _ _ => Ext.trans) (Ext.drew _) (by kernel_rfl) ?_
            apply Build.det 12 Ext.refl (by rfl) (by rfl) rfl
            case h =>
              intro ax wx hE hR hF
              have e4 : ax.eval (.tmp 4) = .pointer (some ⟨wr.heap.size, 0, none⟩) := hE.eval 4 (by rfl) rfl
              simp [go_sem, ↓IntWalk.iteOmega, ev e4, dneg, hsub, hsub2, d1]
              with_reducible rfl
            apply Build.det 13 Ext.refl (by rfl) (by rfl) rfl
            case h =>
              intro ax wx hE hR hF
              have e12 := hF 0 (det 12 _) (by decide) (.head _)
              have hX2 := HX.out.ext hR; have q0 := hX2.cell 0; have q1 := hX2.cell 1; obtain ⟨p0, p1⟩ := HP.out _ hR
              simp [go_sem, ↓IntWalk.iteOmega, ev e12, dneg, hsub, hsub2, d1, q0, q1, p0, p1]
              with_reducible rfl
            apply Build.det 14 Ext.refl (by rfl) (by rfl) rfl
            case h =>
              intro ax wx hE hR hF
              have e13 := hF 1 (det 13 _) (by decide) (.head _)
              simp [go_sem, ↓IntWalk.iteOmega, ev e13, dneg, hsub, hsub2, d1]
              with_reducible rfl
            apply Build.det 15 Ext.refl (by rfl) (by rfl) rfl
            case h =>
              intro ax wx hE hR hF
              have e14 := hF 2 (det 14 _) (by decide) (.head _)
              simp [go_sem, ↓IntWalk.iteOmega, ev e14, dneg, hsub, hsub2, d1]
              with_reducible rfl
            apply Build.detg 16 Ext.refl (by rfl) (by rfl) rfl rfl
            case h =>
              intro ax wx hE hR hF
              have e4 : ax.eval (.tmp 4) = .pointer (some ⟨wr.heap.size, 0, none⟩) := hE.eval 4 (by rfl) rfl
              have e15 := hF 3 (det 15 _) (by decide) (.head _)
              refine ⟨e15, ?_⟩
              simp [go_sem, ↓IntWalk.iteOmega, ev e4, ev e15, dneg, hsub, hsub2, d1]
              with_reducible rfl
            apply Build.detg 17 Ext.refl (by rfl) (by rfl) rfl rfl
            case h =>
              intro ax wx hE hR hF
              have e15 := hF 3 (det 15 _) (by decide) (.tail _ (.head _))
              have e16 := hF 4 (det 16 _) (by decide) (.head _)
              have hX2 := HX.out.ext hR; have q0 := hX2.cell 0; have q1 := hX2.cell 1; obtain ⟨p0, p1⟩ := HP.out _ hR
              refine ⟨e15, ?_⟩
              simp [go_sem, ↓IntWalk.iteOmega, ev e15, ev e16, dneg, hsub, hsub2, d1, q0, q1, p0, p1]
              with_reducible rfl
            apply Build.detg 18 Ext.refl (by rfl) (by rfl) rfl rfl
            case h =>
              intro ax wx hE hR hF
              have e15 := hF 3 (det 15 _) (by decide) (.tail _ (.tail _ (.head _)))
              have e17 := hF 5 (det 17 _) (by decide) (.head _)
              refine ⟨e15, ?_⟩
              simp [go_sem, ↓IntWalk.iteOmega, ev e15, ev e17, dneg, hsub, hsub2, d1]
              with_reducible rfl
            apply Build.det 19 Ext.refl (by rfl) (by rfl) rfl
            case h =>
              intro ax wx hE hR hF
              have e15 := hF 3 (det 15 _) (by decide) (.tail _ (.tail _ (.tail _ (.head _))))
              have e18 := hF 6 (det 18 _) (by decide) (.head _)
              simp [go_sem, ↓IntWalk.iteOmega, ev e15, ev e18, dneg, hsub, hsub2, d1]
              with_reducible rfl
            apply Build.det 20 Ext.refl (by rfl) (by rfl) rfl
            case h =>
              intro ax wx hE hR hF
              have e19 := hF 7 (det 19 _) (by decide) (.head _)
              simp [go_sem, ↓IntWalk.iteOmega, ev e19, dneg, hsub, hsub2, d1]
              with_reducible rfl
            apply Build.detg 21 Ext.refl (by rfl) (by rfl) rfl rfl
            case h =>
              intro ax wx hE hR hF
              have e4 : ax.eval (.tmp 4) = .pointer (some ⟨wr.heap.size, 0, none⟩) := hE.eval 4 (by rfl) rfl
              have e20 := hF 8 (det 20 _) (by decide) (.head _)
              refine ⟨e20, ?_⟩
              simp [go_sem, ↓IntWalk.iteOmega, ev e4, ev e20, dneg, hsub, hsub2, d1]
              with_reducible rfl
            apply Build.detg 22 Ext.refl (by rfl) (by rfl) rfl rfl
            case h =>
              intro ax wx hE hR hF
              have e20 := hF 8 (det 20 _) (by decide) (.tail _ (.head _))
              have e21 := hF 9 (det 21 _) (by decide) (.head _)
              have hX2 := HX.out.ext hR; have q0 := hX2.cell 0; have q1 := hX2.cell 1; obtain ⟨p0, p1⟩ := HP.out _ hR
              refine ⟨e20, ?_⟩
              simp [go_sem, ↓IntWalk.iteOmega, ev e20, ev e21, dneg, hsub, hsub2, d1, q0, q1, p0, p1]
              with_reducible rfl
            apply Build.callg 23 Ext.refl (by rfl) (by rfl) rfl rfl
            case h =>
              intro ax wx hE hR hF
              have e20 := hF 8 (det 20 _) (by decide) (.tail _ (.tail _ (.head _)))
              have e22 := hF 10 (det 22 _) (by decide) (.head _)
              refine ⟨e20, ?_⟩
              simp [go_sem, ↓IntWalk.iteOmega, ev e20, ev e22, dneg, hsub, hsub2, d1]
              with_reducible exact ⟨rfl, rfl⟩
            case hc => intro wx hR; with_reducible exact HW.out wx
            apply Build.detg 24 Ext.refl (by rfl) (by rfl) rfl rfl
            case h =>
              intro ax wx hE hR hF
              have e20 := hF 8 (det 20 _) (by decide) (.tail _ (.tail _ (.tail _ (.head _))))
              have e23 := hF 11 (det 23 _) (by decide) (.head _)
              refine ⟨e20, ?_⟩
              simp [go_sem, ↓IntWalk.iteOmega, ev e20, ev e23, dneg, hsub, hsub2, d1]
              with_reducible rfl
            apply Build.det 25 Ext.refl (by rfl) (by rfl) rfl
            case h =>
              intro ax wx hE hR hF
              have e20 := hF 8 (det 20 _) (by decide) (mem4 (.head _))
              have e24 := hF 12 (det 24 _) (by decide) (.head _)
              simp [go_sem, ↓IntWalk.iteOmega, ev e20, ev e24, dneg, hsub, hsub2, d1]
              with_reducible rfl
            apply Build.det 26 Ext.refl (by rfl) (by rfl) rfl
            case h =>
              intro ax wx hE hR hF
              have e25 := hF 13 (det 25 _) (by decide) (.head _)
              simp [go_sem, ↓IntWalk.iteOmega, ev e25, dneg, hsub, hsub2, d1]
              with_reducible rfl
            refine Build.skip 27 (by rfl) (by rfl) rfl rfl ?_ ?_
            · intro ax wx hE hR hF
              have e26 := hF 14 (det 26 _) (by decide) (.head _)
              exact e26
            refine Build.skip 28 (by rfl) (by rfl) rfl rfl ?_ ?_
            · intro ax wx hE hR hF
              have e26 := hF 14 (det 26 _) (by decide) (.tail _ (.head _))
              exact e26
            refine Build.skip 29 (by rfl) (by rfl) rfl rfl ?_ ?_
            · intro ax wx hE hR hF
              have e26 := hF 14 (det 26 _) (by decide) (.tail _ (.tail _ (.head _)))
              exact e26
            refine Build.skipu 30 (by rfl) (by rfl) rfl rfl ?_ ?_
            · intro ax wx hE hR hF
              have e29 := hF 17 (det 29 _) (by decide) (.head _)
              exact e29
            refine Build.skipu 31 (by rfl) (by rfl) rfl rfl ?_ ?_
            · intro ax wx hE hR hF
              have e29 := hF 17 (det 29 _) (by decide) (.tail _ (.head _))
              exact e29
            refine Build.skipu 32 (by rfl) (by rfl) rfl rfl ?_ ?_
            · intro ax wx hE hR hF
              have e29 := hF 17 (det 29 _) (by decide) (.tail _ (.tail _ (.head _)))
              exact e29
            refine Build.skipu 33 (by rfl) (by rfl) rfl rfl ?_ ?_
            · intro ax wx hE hR hF
              have e29 := hF 17 (det 29 _) (by decide) (.tail _ (.tail _ (.tail _ (.head _))))
              exact e29
            refine Build.skipu 34 (by rfl) (by rfl) rfl rfl ?_ ?_
            · intro ax wx hE hR hF
              have e29 := hF 17 (det 29 _) (by decide) (mem4 (.head _))
              exact e29
            refine Build.skipu 35 (by rfl) (by rfl) rfl rfl ?_ ?_
            · intro ax wx hE hR hF
              have e29 := hF 17 (det 29 _) (by decide) (mem4 (.tail _ (.head _)))
              exact e29
            refine Build.skipu 36 (by rfl) (by rfl) rfl rfl ?_ ?_
            · intro ax wx hE hR hF
              have e29 := hF 17 (det 29 _) (by decide) (mem4 (.tail _ (.tail _ (.head _))))
              exact e29
            refine Build.skipu 37 (by rfl) (by rfl) rfl rfl ?_ ?_
            · intro ax wx hE hR hF
              have e29 := hF 17 (det 29 _) (by decide) (mem4 (.tail _ (.tail _ (.tail _ (.head _)))))
              exact e29
            refine Build.skipu 38 (by rfl) (by rfl) rfl rfl ?_ ?_
            · intro ax wx hE hR hF
              have e29 := hF 17 (det 29 _) (by decide) (mem4 (mem4 (.head _)))
              exact e29
            refine Build.skipu 39 (by rfl) (by rfl) rfl rfl ?_ ?_
            · intro ax wx hE hR hF
              have e29 := hF 17 (det 29 _) (by decide) (mem4 (mem4 (.tail _ (.head _))))
              exact e29
            refine Build.skipu 40 (by rfl) (by rfl) rfl rfl ?_ ?_
            · intro ax wx hE hR hF
              have e29 := hF 17 (det 29 _) (by decide) (mem4 (mem4 (.tail _ (.tail _ (.head _)))))
              exact e29
            refine Build.skipu 41 (by rfl) (by rfl) rfl rfl ?_ ?_
            · intro ax wx hE hR hF
              have e29 := hF 17 (det 29 _) (by decide) (mem4 (mem4 (.tail _ (.tail _ (.tail _ (.head _))))))
              exact e29
            refine Build.skipu 42 (by rfl) (by rfl) rfl rfl ?_ ?_
            · intro ax wx hE hR hF
              have e29 := hF 17 (det 29 _) (by decide) (mem4 (mem4 (mem4 (.head _))))
              exact e29
            refine Build.skipu 43 (by rfl) (by rfl) rfl rfl ?_ ?_
            · intro ax wx hE hR hF
              have e29 := hF 17 (det 29 _) (by decide) (mem4 (mem4 (mem4 (.tail _ (.head _)))))
              exact e29
            refine Build.skipu 44 (by rfl) (by rfl) rfl rfl ?_ ?_
            · intro ax wx hE hR hF
              have e29 := hF 17 (det 29 _) (by decide) (mem4 (mem4 (mem4 (.tail _ (.tail _ (.head _))))))
              exact e29
            refine Build.skipu 45 (by rfl) (by rfl) rfl rfl ?_ ?_
            · intro ax wx hE hR hF
              have e29 := hF 17 (det 29 _) (by decide) (mem4 (mem4 (mem4 (.tail _ (.tail _ (.tail _ (.head _)))))))
              exact e29
            refine Build.skip 46 (by rfl) (by rfl) rfl rfl ?_ ?_
            · intro ax wx hE hR hF
              have e26 := hF 14 (det 26 _) (by decide) (mem16 (.tail _ (.tail _ (.tail _ (.head _)))))
              exact e26
            apply Build.det 47 Ext.refl (by rfl) (by rfl) rfl
            case h =>
              intro ax wx hE hR hF
              have e26 := hF 14 (det 26 _) (by decide) (mem16 (mem4 (.head _)))
              have e46 := hF 34 (det 46 _) (by decide) (.head _)
              simp [go_sem, ↓IntWalk.iteOmega, ev e26, ev e46, dneg, hsub, hsub2, d1]
              with_reducible rfl
            apply Build.stop
            refine ⟨by kernel_rfl, .inl ⟨rfl, ?_⟩⟩
            intro ax w2 hE R2 hF
            have e12 := hF 0 (det 12 _) (mem16 (mem16 (.tail _ (.tail _ (.tail _ (.head _))))))
            have e13 := hF 1 (det 13 _) (mem16 (mem16 (.tail _ (.tail _ (.head _)))))
            have e14 := hF 2 (det 14 _) (mem16 (mem16 (.tail _ (.head _))))
            have e15 := hF 3 (det 15 _) (mem16 (mem16 (.head _)))
            have e16 := hF 4 (det 16 _) (mem16 (mem4 (mem4 (mem4 (.tail _ (.tail _ (.tail _ (.head _))))))))
            have e17 := hF 5 (det 17 _) (mem16 (mem4 (mem4 (mem4 (.tail _ (.tail _ (.head _)))))))
            have e18 := hF 6 (det 18 _) (mem16 (mem4 (mem4 (mem4 (.tail _ (.head _))))))
            have e19 := hF 7 (det 19 _) (mem16 (mem4 (mem4 (mem4 (.head _)))))
            have e20 := hF 8 (det 20 _) (mem16 (mem4 (mem4 (.tail _ (.tail _ (.tail _ (.head _)))))))
            have e21 := hF 9 (det 21 _) (mem16 (mem4 (mem4 (.tail _ (.tail _ (.head _))))))
            have e22 := hF 10 (det 22 _) (mem16 (mem4 (mem4 (.tail _ (.head _)))))
            have e23 := hF 11 (det 23 _) (mem16 (mem4 (mem4 (.head _))))
            have e24 := hF 12 (det 24 _) (mem16 (mem4 (.tail _ (.tail _ (.tail _ (.head _))))))
            have e25 := hF 13 (det 25 _) (mem16 (mem4 (.tail _ (.tail _ (.head _)))))
            have e26 := hF 14 (det 26 _) (mem16 (mem4 (.tail _ (.head _))))
            have e27 := hF 15 (det 27 _) (mem16 (mem4 (.head _)))
            have e28 := hF 16 (det 28 _) (mem16 (.tail _ (.tail _ (.tail _ (.head _)))))
            have e29 := hF 17 (det 29 _) (mem16 (.tail _ (.tail _ (.head _))))
            have e30 := hF 18 (det 30 _) (mem16 (.tail _ (.head _)))
            have e31 := hF 19 (det 31 _) (mem16 (.head _))
            have e32 := hF 20 (det 32 _) (mem4 (mem4 (mem4 (.tail _ (.tail _ (.tail _ (.head _)))))))
            have e33 := hF 21 (det 33 _) (mem4 (mem4 (mem4 (.tail _ (.tail _ (.head _))))))
            have e34 := hF 22 (det 34 _) (mem4 (mem4 (mem4 (.tail _ (.head _)))))
            have e35 := hF 23 (det 35 _) (mem4 (mem4 (mem4 (.head _))))
            have e36 := hF 24 (det 36 _) (mem4 (mem4 (.tail _ (.tail _ (.tail _ (.head _))))))
            have e37 := hF 25 (det 37 _) (mem4 (mem4 (.tail _ (.tail _ (.head _)))))
            have e38 := hF 26 (det 38 _) (mem4 (mem4 (.tail _ (.head _))))
            have e39 := hF 27 (det 39 _) (mem4 (mem4 (.head _)))
            have e40 := hF 28 (det 40 _) (mem4 (.tail _ (.tail _ (.tail _ (.head _)))))
            have e41 := hF 29 (det 41 _) (mem4 (.tail _ (.tail _ (.head _))))
            have e42 := hF 30 (det 42 _) (mem4 (.tail _ (.head _)))
            have e43 := hF 31 (det 43 _) (mem4 (.head _))
            have e44 := hF 32 (det 44 _) (.tail _ (.tail _ (.tail _ (.head _))))
            have e45 := hF 33 (det 45 _) (.tail _ (.tail _ (.head _)))
            have e46 := hF 34 (det 46 _) (.tail _ (.head _))
            have e47 := hF 35 (det 47 _) (.head _)
            rw [AllEq.frame (D := [12, 13, 14, 15, 16, 17, 18, 19, 20, 21, 22, 23, 24, 25, 26, 27, 28, 29, 30, 31, 32, 33, 34, 35, 36, 37, 38, 39, 40, 41, 42, 43, 44, 45, 46, 47]) (AllEq.cons e12 (AllEq.cons e13 (AllEq.cons e14 (AllEq.cons e15 (AllEq.cons e16 (AllEq.cons e17 (AllEq.cons e18 (AllEq.cons e19 (AllEq.cons e20 (AllEq.cons e21 (AllEq.cons e22 (AllEq.cons e23 (AllEq.cons e24 (AllEq.cons e25 (AllEq.cons e26 (AllEq.cons e27 (AllEq.cons e28 (AllEq.cons e29 (AllEq.cons e30 (AllEq.cons e31 (AllEq.cons e32 (AllEq.cons e33 (AllEq.cons e34 (AllEq.cons e35 (AllEq.cons e36 (AllEq.cons e37 (AllEq.cons e38 (AllEq.cons e39 (AllEq.cons e40 (AllEq.cons e41 (AllEq.cons e42 (AllEq.cons e43 (AllEq.cons e44 (AllEq.cons e45 (AllEq.cons e46 (AllEq.cons e47 (AllEq.nil))))))))))))))))))))))))))))))))))))) hE rfl]
            clear hF hE e12 e13 e14 e15 e16 e17 e18 e19 e20 e21 e22 e23 e24 e25 e26 e27 e28 e29 e30 e31 e32 e33 e34 e35 e36 e37 e38 e39 e40 e41 e42 e43 e44 e45 e46 e47
            simp only [List.foldl_cons, List.foldl_nil, Act.put, List.setIfInBounds_toArray, List.set_cons_succ, List.set_cons_zero]
            have hEx := hE1.trans R2
            have hG : Hid (GB = false) := HB.out HBAD
            go_wp2_with fail
            go_ret
            exact ⟨by rw [hG.out] <;> rfl, hEx⟩
    · obtain rfl : j = len := by omega
      have hG : Hid (GB = true) := HG.out.2 HJ.out
      go_wp2_with fail
      go_ret
      exact ⟨by rw [hG.out] <;> rfl, hEx0⟩
end Go.Proofs.Ytbfgacmfjfbooaa
