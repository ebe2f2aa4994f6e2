/- tierceref30: Good, Fits (by the machine). -/
import Derived.Test.YtbfgacmfjfbooaaKShipExact05
import Derived.Test.YtbfgacmfjfbooaaKShipExact07
import Derived.Lib.LazyBuf
namespace Go.Proofs.Ytbfgacmfjfbooaa
set_option linter.unusedVariables false
set_option linter.unusedSimpArgs false
set_option linter.unusedVariables false
set_option linter.unusedSimpArgs false
open Go.RowKit

abbrev pj (k : Nat) : Ht := .v (.pointer (some ⟨0, k, none⟩))
abbrev vi (z : Int) : Ht := .v (.int .i64 z)
abbrev vs (s : ByteArray) : Ht := .v (.string s)
abbrev tXs (v : Value) (L : List (Nat × ByteArray)) : Thing := tRow 73 2 v L.length (flatX L)
theorem flat0 (L : List (Nat × ByteArray)) {j : Nat} (hj : j < L.length) : (flatX L)[2 * j]? = some (.int .i64 (atX L j : Nat)) := by
  induction L generalizing j with
  | nil => simp at hj
  | cons x L ih =>
    cases j with
    | zero => simp [flatX, atX]
    | succ j =>
      have := ih (j := j) (by simpa using hj)
      rw [show 2 * (j + 1) = 2 * j + 1 + 1 by omega]
      simpa [flatX, atX] using this
theorem flat1 (L : List (Nat × ByteArray)) {j : Nat} (hj : j < L.length) : (flatX L)[2 * j + 1]? = some (.string (datX L j)) := by
  induction L generalizing j with
  | nil => simp at hj
  | cons x L ih =>
    cases j with
    | zero => simp [flatX, datX]
    | succ j =>
      have := ih (j := j) (by simpa using hj)
      rw [show 2 * (j + 1) + 1 = 2 * j + 1 + 1 + 1 by omega]
      simpa [flatX, datX] using this
theorem at_bd {L : List (Nat × ByteArray)} {n k : Nat} (hx : ∀ x ∈ L, x.1 ≤ n ∧ x.2.size ≤ k) (j : Nat) (hj : j < L.length) : atX L j ≤ n ∧ (datX L j).size ≤ k := by
  have := hx _ (List.getElem_mem hj)
  simpa [atX, datX, List.getD_eq_getElem?_getD, List.getElem?_eq_getElem hj] using this
set_option maxRecDepth 10000 in
theorem rgoodE {v : Value} (L : List (Nat × ByteArray)) (w : World) (hr : (tXs v L).holds w) (hl : L.length ≤ 1000000) (hx : ∀ x ∈ L, x.1 ≤ 1099511627776 ∧ x.2.size ≤ 1099511627776) :
    Calls Try.prog 58 #[v] w fun e w' => e = .returned (.bool (goodX L)) ∧ Ext w w' := by
  obtain ⟨B, c, rfl⟩ := Z05 (show w.ownsRow 0 _ _ _ _ _ from hr)
  obtain ⟨ce, hc, hce⟩ := rowCe (show w.ownsRow 0 _ _ _ _ _ from hr)
  have hgd : goodX L = true ↔ ∀ i, i < L.length → okX L i := by unfold goodX; simp
  refine fnG (all0 w ce hc) 60 Try.func58 rfl rfl rfl fun a h => ?_
  refine gX h [] rfl fun a w h => ?_
  refine lpG (G := Nat) (fun j => [(0, .slice B L.length c), (3, .int .i64 j)]) (fun _ => [tAll _ ce hc]) (fun j => j ≤ L.length ∧ ∀ i, i < j → okX L i) (fun j => L.length - j) 0 h ⟨rfl, rfl, trivial⟩ h.O ⟨Nat.zero_le _, fun i hi => absurd hi (Nat.not_lt_zero i)⟩ fun j ⟨hj, hok⟩ a w h => ?_
  by_cases h1 : j < L.length
  · obtain ⟨b, c', hv, rfl⟩ := hce (by omega)
    obtain ⟨rfl, rfl⟩ : B = some ⟨b, 0, none⟩ ∧ c = c' := by injection hv with h1 h2 h3; exact ⟨h1, h3⟩
    clear hv
    have q0 := flat0 L h1
    have q1 := flat1 L h1
    have hb := at_bd hx j h1
    obtain ⟨d, hd⟩ : ∃ d, datX L j = d := ⟨_, rfl⟩
    obtain ⟨t, ht⟩ : ∃ t, atX L j = t := ⟨_, rfl⟩
    rw [hd] at q1 hb
    rw [ht] at q0 hb
    obtain ⟨n, hn⟩ : ∃ n, d.data.toList.length = n := ⟨_, rfl⟩
    have hsz : d.size = n := by rw [← hn]; simp
    rw [hsz] at hb
    have hbad : ¬ okX L j → goodX L = false := fun hb => by
      cases hg : goodX L with
      | false => rfl
      | true => exact absurd (hgd.1 hg j h1) hb
    unfold okX at hbad
    rw [hd, ht, hsz] at hbad
    by_cases h2 : n = 0
    · refine gX h [.t, pj (2 * j), 0, vi t, .f, pj (2 * j), 0, vs d, vi n, .t] rfl fun a w h => ?_
      exact gR h rfl ⟨by rw [hbad (by omega)], allE 0 h.O rfl⟩
    by_cases h3 : n % 16 = 0
    rotate_left
    · refine gX h [.t, pj (2 * j), 0, vi t, .f, pj (2 * j), 0, vs d, vi n, .f, pj (2 * j), 0, vs d, vi n, .t] rfl fun a w h => ?_
      exact gR h rfl ⟨by rw [hbad (by omega)], allE 0 h.O rfl⟩
    by_cases h4 : j = 0
    · refine gX h [.t, pj (2 * j), 0, vi t, .f, pj (2 * j), 0, vs d, vi n, .f, pj (2 * j), 0, vs d, vi n, .f, .f] rfl fun a w h => ?_
      exact reG (j + 1) h ⟨rfl, rfl, trivial⟩ h.O ⟨h1, fun i hi => by
        by_cases hij : i = j
        · subst hij; unfold okX; rw [hd, ht, hsz]; omega
        · exact hok i (by omega)⟩ (by omega)
    obtain ⟨i, rfl⟩ : ∃ i, j = i + 1 := ⟨j - 1, by omega⟩
    have r0 := flat0 L (j := i) (by omega)
    have r1 := flat1 L (j := i) (by omega)
    have hb2 := at_bd hx i (by omega)
    rw [show i + 1 - 1 = i by omega] at hbad
    obtain ⟨d2, hd2⟩ : ∃ d, datX L i = d := ⟨_, rfl⟩
    obtain ⟨t2, ht2⟩ : ∃ t, atX L i = t := ⟨_, rfl⟩
    obtain ⟨n2, hn2⟩ : ∃ n, d2.size = n := ⟨_, rfl⟩
    rw [hd2] at r1 hb2 hbad
    rw [ht2] at r0 hb2 hbad
    rw [hn2] at hb2 hbad
    by_cases h5 : (t : Int) - (n2 / 16 : Nat) ≤ t2
    · refine gX h [.t, pj (2 * (i + 1)), 0, vi t, .f, pj (2 * (i + 1)), 0, vs d, vi n, .f, pj (2 * (i + 1)), 0, vs d, vi n, .f, .t, pj (2 * (i + 1)), 0, vi t, vi i, pj (2 * i), 0, vs d2, vi n2, vi ↑(n2 / 16), vi (↑t - ↑(n2 / 16)), vi i, pj (2 * i), 0, vi t2, .t] rfl fun a w h => ?_
      exact gR h rfl ⟨by rw [hbad (by omega)], allE 0 h.O rfl⟩
    · refine gX h [.t, pj (2 * (i + 1)), 0, vi t, .f, pj (2 * (i + 1)), 0, vs d, vi n, .f, pj (2 * (i + 1)), 0, vs d, vi n, .f, .t, pj (2 * (i + 1)), 0, vi t, vi i, pj (2 * i), 0, vs d2, vi n2, vi ↑(n2 / 16), vi (↑t - ↑(n2 / 16)), vi i, pj (2 * i), 0, vi t2, .f] rfl fun a w h => ?_
      exact reG (i + 2) h ⟨rfl, rfl, trivial⟩ h.O ⟨by omega, fun q hq => by
        by_cases hij : q = i + 1
        · subst hij; unfold okX; rw [hd, ht, hsz, show i + 1 - 1 = i by omega, hd2, ht2, hn2]; omega
        · exact hok q (by omega)⟩ (by omega)
  · refine gX h [.f] rfl fun a w h => ?_
    exact gR h rfl ⟨by rw [hgd.2 fun i hi => hok i (by omega)], allE 0 h.O rfl⟩
/-- Whether all end within n sectors. -/
def fitsX (L : List (Nat × ByteArray)) (n : Nat) : Prop := ∀ i, i < L.length → atX L i ≤ n ∧ (datX L i).size / 16 ≤ n - atX L i
noncomputable instance (L : List (Nat × ByteArray)) (n : Nat) : Decidable (fitsX L n) := by unfold fitsX; infer_instance
set_option maxRecDepth 10000 in
theorem rfitsE {v : Value} (L : List (Nat × ByteArray)) (k : Nat) (w : World) (hr : (tXs v L).holds w) (hl : L.length ≤ 1000000) (hk : k ≤ 1000000) (hx : ∀ x ∈ L, x.1 ≤ 1099511627776 ∧ x.2.size ≤ 1099511627776) :
    Calls Try.prog 59 #[v, .int .i64 k] w fun e w' => e = .returned (.bool (decide (fitsX L k))) ∧ Ext w w' := by
  obtain ⟨B, c, rfl⟩ := Z05 (show w.ownsRow 0 _ _ _ _ _ from hr)
  obtain ⟨ce, hc, hce⟩ := rowCe (show w.ownsRow 0 _ _ _ _ _ from hr)
  refine fnG (all0 w ce hc) 36 Try.func59 rfl rfl rfl fun a h => ?_
  refine gX h [] rfl fun a w h => ?_
  refine lpG (G := Nat) (fun j => [(0, .slice B L.length c), (1, .int .i64 k), (5, .int .i64 j)]) (fun _ => [tAll _ ce hc]) (fun j => j ≤ L.length ∧ ∀ i, i < j → atX L i ≤ k ∧ (datX L i).size / 16 ≤ k - atX L i) (fun j => L.length - j) 0 h ⟨rfl, rfl, rfl, trivial⟩ h.O ⟨Nat.zero_le _, fun i hi => absurd hi (Nat.not_lt_zero i)⟩ fun j ⟨hj, hok⟩ a w h => ?_
  by_cases h1 : j < L.length
  · obtain ⟨b, c', hv, rfl⟩ := hce (by omega)
    obtain ⟨rfl, rfl⟩ : B = some ⟨b, 0, none⟩ ∧ c = c' := by injection hv with h1 h2 h3; exact ⟨h1, h3⟩
    clear hv
    have q0 := flat0 L h1
    have q1 := flat1 L h1
    have hb := at_bd hx j h1
    have hbad : ¬ (atX L j ≤ k ∧ (datX L j).size / 16 ≤ k - atX L j) → decide (fitsX L k) = false := fun hb => decide_eq_false fun hf => hb (hf j h1)
    obtain ⟨d, hd⟩ : ∃ d, datX L j = d := ⟨_, rfl⟩
    obtain ⟨t, ht⟩ : ∃ t, atX L j = t := ⟨_, rfl⟩
    obtain ⟨n, hn⟩ : ∃ n, d.size = n := ⟨_, rfl⟩
    rw [hd] at q1 hb hbad
    rw [ht] at q0 hb hbad
    rw [hn] at hb hbad
    by_cases h2 : k < t
    · refine gX h [.t, pj (2 * j), 0, vi t, .t] rfl fun a w h => ?_
      exact gR h rfl ⟨by rw [hbad (by omega)], allE 0 h.O rfl⟩
    by_cases h3 : k - t < n / 16
    · refine gX h [.t, pj (2 * j), 0, vi t, .f, pj (2 * j), 0, vs d, vi n, vi ↑(n / 16), pj (2 * j), 0, vi t, vi (↑k - ↑t), .t] rfl fun a w h => ?_
      exact gR h rfl ⟨by rw [hbad (by omega)], allE 0 h.O rfl⟩
    · refine gX h [.t, pj (2 * j), 0, vi t, .f, pj (2 * j), 0, vs d, vi n, vi ↑(n / 16), pj (2 * j), 0, vi t, vi (↑k - ↑t), .f] rfl fun a w h => ?_
      exact reG (j + 1) h ⟨rfl, rfl, rfl, trivial⟩ h.O ⟨h1, fun i hi => by
        by_cases hij : i = j
        · subst hij; rw [hd, ht, hn]; omega
        · exact hok i (by omega)⟩ (by omega)
  · refine gX h [.f] rfl fun a w h => ?_
    exact gR h rfl ⟨by rw [decide_eq_true (show fitsX L k from fun i hi => hok i (by omega))], allE 0 h.O rfl⟩
end Go.Proofs.Ytbfgacmfjfbooaa

/- diff: the closure far of Apply, and slices.ContainsFunc of it; copy onto bytes. -/
namespace Go.Proofs.Ytbfgacmfjfbooaa
attribute [local simp] BigFrame.eval_const BigFrame.eval_global BigFrame.eval_func
set_option linter.unusedVariables false
set_option linter.unusedSimpArgs false
open Go.RowKit

def farX (n : Nat) (x : Nat × ByteArray) : Bool := decide (n < x.1) || decide (n - x.1 < x.2.size / 16)
set_option maxHeartbeats 1000000 in
theorem dfar_any (k : Nat) (d : ByteArray) (n g : Nat) (w : World) (hk : k ≤ 1099511627776) (hd : d.size ≤ 1099511627776) (hn : n ≤ 1099511627776) (hc : w.cell? ⟨g, 0, none⟩ = some (.int .i64 n)) (hg : g < w.heap.size) :
    Calls Try.prog 56 #[.agg #[.int .i64 k, .string d], .pointer (some ⟨g, 0, none⟩)] w fun e w' => e = .returned (.bool (farX n (k, d))) ∧ Ext w w' := by
  have hE := Ext.alloc w (.cells #[.int .i64 k, .string d] 107)
  have HX := Lib.hid (Blk.new w 107 #[.int .i64 k, .string d])
  have HC := Lib.hid (fun (W : World) (h : Ext (w.alloc (.cells #[.int .i64 k, .string d] 107)) W) => ((bcell (hE.trans h)).1 g 0 hg).trans hc)
  obtain ⟨Z, hZ⟩ : ∃ Z, d.size / 16 = Z := ⟨_, rfl⟩
  have hs := fun W => Z4b (k : Int) d W (by omega)
  rw [hZ] at hs
  have HS := Lib.hid hs
  have hf : farX n (k, d) = (decide (n < k) || decide (n - k < Z)) := by unfold farX; rw [← hZ]
  obtain ⟨FB, hFB⟩ : ∃ B, farX n (k, d) = B := ⟨_, rfl⟩
  rw [hFB] at hf ⊢
  have HFB := Lib.hid hf
  have HE := Lib.hid hE
  have hzl : Z ≤ 1099511627776 := by omega
  have hwz : IntKind.i64.wrap ((n : Int) - (k : Int)) = (n : Int) - (k : Int) := IntWalk.i64_in _ (by omega)
  clear hs hZ hf hE hc hFB
  go_enter Try.func56, Try.ntmps56
  go_upto_region 1 with fail
  generalize hw0 : w.alloc (.cells #[.int .i64 k, .string d] 107) = w0 at HX HC HE ⊢
  clear hw0
  by_cases h1 : n < k
  · have d1 : decide ((n : Int) < (k : Int)) = true := by rw [decide_eq_true_iff]; omega
    have d1n : decide (n < k) = true := by rw [decide_eq_true_iff]; omega
    refine Z06 (R := Ext) (w0 := w0) [[], [0], [], [0, 1, 2], [0, 1, 2, 3], [0, 1, 2, 3, 4], [0, 1, 2, 3, 4, 5], [0, 1, 2, 3, 4], [0, 1, 2, 3, 4], [0, 1, 2, 3, 4, 8], [0, 1, 2, 3, 4, 7, 8, 9], [0, 1, 2, 3, 4, 5, 6, 7, 8, 9, 10], [0, 1, 2, 3, 4, 5, 6, 7, 8, 9, 10, 11], [0, 1, 2, 3, 4, 5, 6, 7, 8, 9, 10, 11, 12]] [4, 5, 6, 7, 8, 9, 10, 11, 12, 13, 14, 15, 16, 3] Ext.refl (fun _ _ _ => Ext.trans) (Ext.drew _) (by kernel_rfl) ?_
    apply Build.det 4 Ext.refl (by rfl) (by rfl) rfl
    case h =>
      intro ax wx hE hR hF
      have e2 : ax.eval (.tmp 2) = .pointer (some ⟨w.heap.size, 0, none⟩) := hE.eval 2 (by rfl) rfl
      simp [go_sem, ↓IntWalk.iteOmega, ev e2, d1, d1n, hwz]
      with_reducible rfl
    apply Build.det 5 Ext.refl (by rfl) (by rfl) rfl
    case h =>
      intro ax wx hE hR hF
      have e4 := hF 0 (det 4 _) (by decide) (.head _)
      have hX2 := HX.out.ext hR; have q0 := hX2.cell 0; have q1 := hX2.cell 1; have q2 := HC.out _ hR
      simp [go_sem, ↓IntWalk.iteOmega, ev e4, d1, d1n, hwz, q0, q1, q2]
      with_reducible rfl
    apply Build.det 6 Ext.refl (by rfl) (by rfl) rfl
    case h =>
      intro ax wx hE hR hF
      have e1 : ax.eval (.tmp 1) = .pointer (some ⟨g, 0, none⟩) := hE.eval 1 (by rfl) rfl
      have hX2 := HX.out.ext hR; have q0 := hX2.cell 0; have q1 := hX2.cell 1; have q2 := HC.out _ hR
      simp [go_sem, ↓IntWalk.iteOmega, ev e1, d1, d1n, hwz, q0, q1, q2]
      with_reducible rfl
    apply Build.det 7 Ext.refl (by rfl) (by rfl) rfl
    case h =>
      intro ax wx hE hR hF
      have e5 := hF 1 (det 5 _) (by decide) (.tail _ (.head _))
      have e6 := hF 2 (det 6 _) (by decide) (.head _)
      simp [go_sem, ↓IntWalk.iteOmega, ev e5, ev e6, d1, d1n, hwz]
      with_reducible rfl
    apply Build.det 8 Ext.refl (by rfl) (by rfl) rfl
    case h =>
      intro ax wx hE hR hF
      have e7 := hF 3 (det 7 _) (by decide) (.head _)
      simp [go_sem, ↓IntWalk.iteOmega, ev e7, d1, d1n, hwz]
      with_reducible rfl
    refine Build.skip 9 (by rfl) (by rfl) rfl rfl ?_ ?_
    · intro ax wx hE hR hF
      have e8 := hF 4 (det 8 _) (by decide) (.head _)
      exact e8
    refine Build.skip 10 (by rfl) (by rfl) rfl rfl ?_ ?_
    · intro ax wx hE hR hF
      have e8 := hF 4 (det 8 _) (by decide) (.tail _ (.head _))
      exact e8
    refine Build.skip 11 (by rfl) (by rfl) rfl rfl ?_ ?_
    · intro ax wx hE hR hF
      have e8 := hF 4 (det 8 _) (by decide) (.tail _ (.tail _ (.head _)))
      exact e8
    refine Build.skip 12 (by rfl) (by rfl) rfl rfl ?_ ?_
    · intro ax wx hE hR hF
      have e8 := hF 4 (det 8 _) (by decide) (.tail _ (.tail _ (.tail _ (.head _))))
      exact e8
    refine Build.skip 13 (by rfl) (by rfl) rfl rfl ?_ ?_
    · intro ax wx hE hR hF
      have e8 := hF 4 (det 8 _) (by decide) (mem4 (.head _))
      exact e8
    refine Build.skip 14 (by rfl) (by rfl) rfl rfl ?_ ?_
    · intro ax wx hE hR hF
      have e8 := hF 4 (det 8 _) (by decide) (mem4 (.tail _ (.head _)))
      exact e8
    refine Build.skip 15 (by rfl) (by rfl) rfl rfl ?_ ?_
    · intro ax wx hE hR hF
      have e8 := hF 4 (det 8 _) (by decide) (mem4 (.tail _ (.tail _ (.head _))))
      exact e8
    apply Build.det 16 Ext.refl (by rfl) (by rfl) rfl
    case h =>
      intro ax wx hE hR hF
      have e8 := hF 4 (det 8 _) (by decide) (mem4 (.tail _ (.tail _ (.tail _ (.head _)))))
      have e15 := hF 11 (det 15 _) (by decide) (.head _)
      simp [go_sem, ↓IntWalk.iteOmega, ev e8, ev e15, d1, d1n, hwz]
      with_reducible rfl
    apply Build.det 3 Ext.refl (by rfl) (by rfl) rfl
    case h =>
      intro ax wx hE hR hF
      have e16 := hF 12 (det 16 _) (by decide) (.head _)
      simp [go_sem, ↓IntWalk.iteOmega, ev e16, d1, d1n, hwz]
      with_reducible rfl
    apply Build.stop
    refine ⟨by kernel_rfl, .inl ⟨rfl, ?_⟩⟩
    intro ax w2 hE R2 hF
    have e4 := hF 0 (det 4 _) (mem4 (mem4 (mem4 (.tail _ (.head _)))))
    have e5 := hF 1 (det 5 _) (mem4 (mem4 (mem4 (.head _))))
    have e6 := hF 2 (det 6 _) (mem4 (mem4 (.tail _ (.tail _ (.tail _ (.head _))))))
    have e7 := hF 3 (det 7 _) (mem4 (mem4 (.tail _ (.tail _ (.head _)))))
    have e8 := hF 4 (det 8 _) (mem4 (mem4 (.tail _ (.head _))))
    have e9 := hF 5 (det 9 _) (mem4 (mem4 (.head _)))
    have e10 := hF 6 (det 10 _) (mem4 (.tail _ (.tail _ (.tail _ (.head _)))))
    have e11 := hF 7 (det 11 _) (mem4 (.tail _ (.tail _ (.head _))))
    have e12 := hF 8 (det 12 _) (mem4 (.tail _ (.head _)))
    have e13 := hF 9 (det 13 _) (mem4 (.head _))
    have e14 := hF 10 (det 14 _) (.tail _ (.tail _ (.tail _ (.head _))))
    have e15 := hF 11 (det 15 _) (.tail _ (.tail _ (.head _)))
    have e16 := hF 12 (det 16 _) (.tail _ (.head _))
    have e3 := hF 13 (det 3 _) (.head _)
    rw [AllEq.frame (D := [4, 5, 6, 7, 8, 9, 10, 11, 12, 13, 14, 15, 16, 3]) (AllEq.cons e4 (AllEq.cons e5 (AllEq.cons e6 (AllEq.cons e7 (AllEq.cons e8 (AllEq.cons e9 (AllEq.cons e10 (AllEq.cons e11 (AllEq.cons e12 (AllEq.cons e13 (AllEq.cons e14 (AllEq.cons e15 (AllEq.cons e16 (AllEq.cons e3 (AllEq.nil))))))))))))))) hE rfl]
    clear hF hE e4 e5 e6 e7 e8 e9 e10 e11 e12 e13 e14 e15 e16 e3
    simp only [List.foldl_cons, List.foldl_nil, Act.put, List.setIfInBounds_toArray, List.set_cons_succ, List.set_cons_zero]
    go_wp2_with fail
    go_ret
    exact ⟨Z2z (by rw [HFB.out, d1n]; rfl), HE.out.trans R2⟩
  · have d1 : decide ((n : Int) < (k : Int)) = false := by rw [decide_eq_false_iff_not]; omega
    have d1n : decide (n < k) = false := by rw [decide_eq_false_iff_not]; omega
    have d2 : decide ((n : Int) - (k : Int) < (Z : Int)) = decide (n - k < Z) := by rw [Bool.eq_iff_iff, decide_eq_true_iff, decide_eq_true_iff]; omega
    obtain ⟨B, hB⟩ : ∃ B, decide (n - k < Z) = B := ⟨_, rfl⟩
    have HB : Hid (FB = B) := by show FB = B; rw [HFB.out, d1n, Bool.false_or, hB]
    rw [hB] at d2
    clear hB
    refine Z06 (R := Ext) (w0 := w0) [[], [0], [], [0, 1, 2], [0, 1, 2, 3], [0, 1, 2, 3, 4], [0, 1, 2, 3, 4, 5], [0, 1, 2, 3, 4], [0, 1, 2, 3, 4], [0, 1, 2, 3, 4, 8], [0, 1, 2, 3, 4, 7, 8, 9], [0, 1, 2, 3, 4, 5, 6, 7, 8, 9, 10], [0, 1, 2, 3, 4, 5, 6, 7, 8, 9, 10, 11], [0, 1, 2, 3, 4, 5, 6, 7, 8, 9, 10, 11, 12]] [4, 5, 6, 7, 8, 9, 10, 11, 12, 13, 14, 15, 16, 3] Ext.refl (fun _ _ _ => Ext.trans) (Ext.drew _) (by kernel_rfl) ?_
    apply Build.det 4 Ext.refl (by rfl) (by rfl) rfl
    case h =>
      intro ax wx hE hR hF
      have e2 : ax.eval (.tmp 2) = .pointer (some ⟨w.heap.size, 0, none⟩) := hE.eval 2 (by rfl) rfl
      simp [go_sem, ↓IntWalk.iteOmega, ev e2, d1, d1n, hwz, d2]
      with_reducible rfl
    apply Build.det 5 Ext.refl (by rfl) (by rfl) rfl
    case h =>
      intro ax wx hE hR hF
      have e4 := hF 0 (det 4 _) (by decide) (.head _)
      have hX2 := HX.out.ext hR; have q0 := hX2.cell 0; have q1 := hX2.cell 1; have q2 := HC.out _ hR
      simp [go_sem, ↓IntWalk.iteOmega, ev e4, d1, d1n, hwz, d2, q0, q1, q2]
      with_reducible rfl
    apply Build.det 6 Ext.refl (by rfl) (by rfl) rfl
    case h =>
      intro ax wx hE hR hF
      have e1 : ax.eval (.tmp 1) = .pointer (some ⟨g, 0, none⟩) := hE.eval 1 (by rfl) rfl
      have hX2 := HX.out.ext hR; have q0 := hX2.cell 0; have q1 := hX2.cell 1; have q2 := HC.out _ hR
      simp [go_sem, ↓IntWalk.iteOmega, ev e1, d1, d1n, hwz, d2, q0, q1, q2]
      with_reducible rfl
    apply Build.det 7 Ext.refl (by rfl) (by rfl) rfl
    case h =>
      intro ax wx hE hR hF
      have e5 := hF 1 (det 5 _) (by decide) (.tail _ (.head _))
      have e6 := hF 2 (det 6 _) (by decide) (.head _)
      simp [go_sem, ↓IntWalk.iteOmega, ev e5, ev e6, d1, d1n, hwz, d2]
      with_reducible rfl
    apply Build.det 8 Ext.refl (by rfl) (by rfl) rfl
    case h =>
      intro ax wx hE hR hF
      have e7 := hF 3 (det 7 _) (by decide) (.head _)
      simp [go_sem, ↓IntWalk.iteOmega, ev e7, d1, d1n, hwz, d2]
      with_reducible rfl
    apply Build.detg 9 Ext.refl (by rfl) (by rfl) rfl rfl
    case h =>
      intro ax wx hE hR hF
      have e2 : ax.eval (.tmp 2) = .pointer (some ⟨w.heap.size, 0, none⟩) := hE.eval 2 (by rfl) rfl
      have e8 := hF 4 (det 8 _) (by decide) (.head _)
      have hX2 := HX.out.ext hR; have q0 := hX2.cell 0; have q1 := hX2.cell 1; have q2 := HC.out _ hR
      refine ⟨e8, ?_⟩
      simp [go_sem, ↓IntWalk.iteOmega, ev e2, ev e8, d1, d1n, hwz, d2, q0, q1, q2]
      with_reducible rfl
    apply Build.callg 10 Ext.refl (by rfl) (by rfl) rfl rfl
    case h =>
      intro ax wx hE hR hF
      have e8 := hF 4 (det 8 _) (by decide) (.tail _ (.head _))
      have e9 := hF 5 (det 9 _) (by decide) (.head _)
      refine ⟨e8, ?_⟩
      simp [go_sem, ↓IntWalk.iteOmega, ev e8, ev e9, d1, d1n, hwz, d2]
      with_reducible exact ⟨rfl, rfl⟩
    case hc => intro wx hR; with_reducible exact HS.out wx
    apply Build.detg 11 Ext.refl (by rfl) (by rfl) rfl rfl
    case h =>
      intro ax wx hE hR hF
      have e1 : ax.eval (.tmp 1) = .pointer (some ⟨g, 0, none⟩) := hE.eval 1 (by rfl) rfl
      have e8 := hF 4 (det 8 _) (by decide) (.tail _ (.tail _ (.head _)))
      have hX2 := HX.out.ext hR; have q0 := hX2.cell 0; have q1 := hX2.cell 1; have q2 := HC.out _ hR
      refine ⟨e8, ?_⟩
      simp [go_sem, ↓IntWalk.iteOmega, ev e1, ev e8, d1, d1n, hwz, d2, q0, q1, q2]
      with_reducible rfl
    apply Build.detg 12 Ext.refl (by rfl) (by rfl) rfl rfl
    case h =>
      intro ax wx hE hR hF
      have e2 : ax.eval (.tmp 2) = .pointer (some ⟨w.heap.size, 0, none⟩) := hE.eval 2 (by rfl) rfl
      have e8 := hF 4 (det 8 _) (by decide) (.tail _ (.tail _ (.tail _ (.head _))))
      refine ⟨e8, ?_⟩
      simp [go_sem, ↓IntWalk.iteOmega, ev e2, ev e8, d1, d1n, hwz, d2]
      with_reducible rfl
    apply Build.detg 13 Ext.refl (by rfl) (by rfl) rfl rfl
    case h =>
      intro ax wx hE hR hF
      have e8 := hF 4 (det 8 _) (by decide) (mem4 (.head _))
      have e12 := hF 8 (det 12 _) (by decide) (.head _)
      have hX2 := HX.out.ext hR; have q0 := hX2.cell 0; have q1 := hX2.cell 1; have q2 := HC.out _ hR
      refine ⟨e8, ?_⟩
      simp [go_sem, ↓IntWalk.iteOmega, ev e8, ev e12, d1, d1n, hwz, d2, q0, q1, q2]
      with_reducible rfl
    apply Build.detg 14 Ext.refl (by rfl) (by rfl) rfl rfl
    case h =>
      intro ax wx hE hR hF
      have e8 := hF 4 (det 8 _) (by decide) (mem4 (.tail _ (.head _)))
      have e11 := hF 7 (det 11 _) (by decide) (.tail _ (.tail _ (.head _)))
      have e13 := hF 9 (det 13 _) (by decide) (.head _)
      refine ⟨e8, ?_⟩
      simp [go_sem, ↓IntWalk.iteOmega, ev e8, ev e11, ev e13, d1, d1n, hwz, d2]
      with_reducible rfl
    apply Build.detg 15 Ext.refl (by rfl) (by rfl) rfl rfl
    case h =>
      intro ax wx hE hR hF
      have e8 := hF 4 (det 8 _) (by decide) (mem4 (.tail _ (.tail _ (.head _))))
      have e10 := hF 6 (det 10 _) (by decide) (mem4 (.head _))
      have e14 := hF 10 (det 14 _) (by decide) (.head _)
      refine ⟨e8, ?_⟩
      simp [go_sem, ↓IntWalk.iteOmega, ev e8, ev e10, ev e14, d1, d1n, hwz, d2]
      with_reducible rfl
    apply Build.det 16 Ext.refl (by rfl) (by rfl) rfl
    case h =>
      intro ax wx hE hR hF
      have e8 := hF 4 (det 8 _) (by decide) (mem4 (.tail _ (.tail _ (.tail _ (.head _)))))
      have e15 := hF 11 (det 15 _) (by decide) (.head _)
      simp [go_sem, ↓IntWalk.iteOmega, ev e8, ev e15, d1, d1n, hwz, d2]
      with_reducible rfl
    apply Build.det 3 Ext.refl (by rfl) (by rfl) rfl
    case h =>
      intro ax wx hE hR hF
      have e16 := hF 12 (det 16 _) (by decide) (.head _)
      simp [go_sem, ↓IntWalk.iteOmega, ev e16, d1, d1n, hwz, d2]
      with_reducible rfl
    apply Build.stop
    refine ⟨by kernel_rfl, .inl ⟨rfl, ?_⟩⟩
    intro ax w2 hE R2 hF
    have e4 := hF 0 (det 4 _) (mem4 (mem4 (mem4 (.tail _ (.head _)))))
    have e5 := hF 1 (det 5 _) (mem4 (mem4 (mem4 (.head _))))
    have e6 := hF 2 (det 6 _) (mem4 (mem4 (.tail _ (.tail _ (.tail _ (.head _))))))
    have e7 := hF 3 (det 7 _) (mem4 (mem4 (.tail _ (.tail _ (.head _)))))
    have e8 := hF 4 (det 8 _) (mem4 (mem4 (.tail _ (.head _))))
    have e9 := hF 5 (det 9 _) (mem4 (mem4 (.head _)))
    have e10 := hF 6 (det 10 _) (mem4 (.tail _ (.tail _ (.tail _ (.head _)))))
    have e11 := hF 7 (det 11 _) (mem4 (.tail _ (.tail _ (.head _))))
    have e12 := hF 8 (det 12 _) (mem4 (.tail _ (.head _)))
    have e13 := hF 9 (det 13 _) (mem4 (.head _))
    have e14 := hF 10 (det 14 _) (.tail _ (.tail _ (.tail _ (.head _))))
    have e15 := hF 11 (det 15 _) (.tail _ (.tail _ (.head _)))
    have e16 := hF 12 (det 16 _) (.tail _ (.head _))
    have e3 := hF 13 (det 3 _) (.head _)
    rw [AllEq.frame (D := [4, 5, 6, 7, 8, 9, 10, 11, 12, 13, 14, 15, 16, 3]) (AllEq.cons e4 (AllEq.cons e5 (AllEq.cons e6 (AllEq.cons e7 (AllEq.cons e8 (AllEq.cons e9 (AllEq.cons e10 (AllEq.cons e11 (AllEq.cons e12 (AllEq.cons e13 (AllEq.cons e14 (AllEq.cons e15 (AllEq.cons e16 (AllEq.cons e3 (AllEq.nil))))))))))))))) hE rfl]
    clear hF hE e4 e5 e6 e7 e8 e9 e10 e11 e12 e13 e14 e15 e16 e3
    simp only [List.foldl_cons, List.foldl_nil, Act.put, List.setIfInBounds_toArray, List.set_cons_succ, List.set_cons_zero]
    go_wp2_with fail
    go_ret
    exact ⟨Z2z HB.out.symm, HE.out.trans R2⟩

set_option maxHeartbeats 1000000 in
theorem Z7p (n g : Nat) (A : Option Addr) (len cap : Nat) (L : List (Nat × ByteArray)) (w : World) (hlen : L.length = len) (hm : len ≤ 1000000) (hn : n ≤ 1099511627776) (hrow : Row w A 2 xC L) (hx : ∀ x ∈ L, x.1 ≤ 1099511627776 ∧ x.2.size ≤ 1099511627776) (hc : w.cell? ⟨g, 0, none⟩ = some (.int .i64 n)) (hg : g < w.heap.size) :
    Calls Try.prog 76 #[.slice A len cap, .func (.func 56) #[] #[.pointer (some ⟨g, 0, none⟩)]] w fun e w' => ∃ r : Int, e = .returned (.int .i64 r) ∧ decide (0 ≤ r) = L.any (farX n) ∧ Ext w w' := by
  go_enter Try.func76, Try.ntmps76
  go_wp2_with fail
  go_loopw [8] (fun i wr => ∃ j : Nat, i = .int .i64 j ∧ j ≤ len ∧ Ext w wr ∧ Hid ((L.take j).any (farX n) = false)) (fun i _ => len - (intOf i).toNat)
  case atStart => exact ⟨0, rfl, by omega, Ext.refl _, by simp [Hid]⟩
  case round =>
    obtain ⟨j, rfl, hj, hEx, HJ⟩ := hrel
    by_cases hlt : j < len
    · have hjx : j < L.length := by omega
      obtain ⟨b0, o0, rfl, hlt0⟩ := hrow.x_in hEx hjx
      obtain ⟨q0, q1⟩ := hrow.x_at hEx hjx
      have hxj := hx _ (List.getElem_mem hjx)
      have e : L[j] = (atX L j, datX L j) := by simp [atX, datX, List.getD, hjx]
      rw [e] at hxj
      have HF := Lib.hid (fun W (h : Ext w W) => dfar_any (atX L j) (datX L j) n g W hxj.1 hxj.2 hn (((bcell h).1 g 0 hg).trans hc) (Nat.lt_of_lt_of_le hg h.size))
      have htk : (L.take (j + 1)).any (farX n) = ((L.take j).any (farX n) || farX n (atX L j, datX L j)) := by
        rw [List.take_succ_eq_append_getElem hjx, List.any_append, e]
        simp only [List.any_cons, List.any_nil, Bool.or_false]
      rw [HJ.out, Bool.false_or] at htk
      have hin : farX n (atX L j, datX L j) = true → L.any (farX n) = true := fun h => List.any_eq_true.2 ⟨_, List.getElem_mem hjx, by rw [e]; exact h⟩
      generalize farX n (atX L j, datX L j) = B at HF htk hin
      have HTK := Lib.hid htk
      have HIN := Lib.hid hin
      generalize atX L j = K at q0 HF
      generalize datX L j = D at q1 HF
      clear htk hin e hxj
      cases B
      · go_wp2_with fail
        refine (HF.out _ hEx).mono ?_
        rintro e w2 ⟨rfl, R2⟩
        go_wp2_with fail
        go_roundw
        case rel => exact ⟨j + 1, by go_num, by omega, hEx.trans R2, HTK.out⟩
        case measure => simp [intOf]; omega
      · go_wp2_with fail
        refine (HF.out _ hEx).mono ?_
        rintro e w2 ⟨rfl, R2⟩
        go_wp2_with fail
        go_ret
        exact ⟨(j : Int), rfl, by rw [HIN.out (by trivial), decide_eq_true_iff]; omega, hEx.trans R2⟩
    · have HA : Hid (L.any (farX n) = false) := by
        have := HJ.out
        rwa [List.take_of_length_le (by omega)] at this
      go_wp2_with fail
      go_ret
      exact ⟨-1, rfl, by rw [HA.out]; decide, hEx⟩
theorem Z29 (n g : Nat) (A : Option Addr) (len cap : Nat) (L : List (Nat × ByteArray)) (w : World) (hlen : L.length = len) (hm : len ≤ 1000000) (hn : n ≤ 1099511627776) (hrow : Row w A 2 xC L) (hx : ∀ x ∈ L, x.1 ≤ 1099511627776 ∧ x.2.size ≤ 1099511627776) (hc : w.cell? ⟨g, 0, none⟩ = some (.int .i64 n)) (hg : g < w.heap.size) :
    Calls Try.prog 57 #[.slice A len cap, .func (.func 56) #[] #[.pointer (some ⟨g, 0, none⟩)]] w fun e w' => e = .returned (.bool (L.any (farX n))) ∧ Ext w w' := by
  go_enter Try.func57, Try.ntmps57
  go_wp2_with fail
  refine (Z7p n g A len cap L _ hlen hm hn hrow hx hc hg).mono ?_
  rintro e w2 ⟨r, rfl, hr, R2⟩
  have HR := Lib.hid hr
  clear hr
  go_wp2_with fail
  go_ret
  exact ⟨Z2z HR.out, R2⟩

theorem putB_cons (L : List UInt8) (o : Nat) (x : UInt8) (d : List UInt8) (h : o + (d.length + 1) ≤ L.length) : putB L o (x :: d) = putB (L.set o x) (o + 1) d := by
  apply List.ext_getElem?
  intro j
  rw [Z12 _ _ _ (by simpa using h), Z12 _ _ _ (by simp; omega), List.length_cons]
  by_cases h1 : j = o
  · subst h1
    rw [if_pos (by omega), if_neg (by omega), List.getElem?_set_self (by omega)]
    simp
  · rw [List.getElem?_set_ne (by omega)]
    by_cases h2 : o ≤ j ∧ j < o + (d.length + 1)
    · rw [if_pos h2, if_pos (by omega)]
      obtain ⟨i, hi⟩ : ∃ i, j - o = i + 1 := ⟨j - o - 1, by omega⟩
      rw [hi, List.getElem?_cons_succ]
      congr 1
      omega
    · rw [if_neg h2, if_neg (by omega)]
theorem putB_nil (L : List UInt8) (o : Nat) : putB L o [] = L := by simp [putB]
theorem Bytes.setCells {g c : Nat} : ∀ (d : List UInt8) (o : Nat) (L : List UInt8) (w : World), Bytes w g L c → o + d.length ≤ L.length → Bytes (w.setCells g o (d.map fun x => Value.int .u8 (x.toNat : Int))) g (putB L o d) c
  | [], o, L, w, h, _ => by rw [putB_nil]; exact h
  | x :: d, o, L, w, h, hl => by
    rw [putB_cons L o x d (by simpa using hl)]
    exact Bytes.setCells d (o + 1) (L.set o x) _ (h.set_ (by simp at hl; omega) x) (by simp at hl ⊢; omega)
theorem size_u8 : ∀ w, (Go.sizeOf 5).run Try.prog w = .ok 1 w := fun _ => by kernel_rfl
theorem Z7t {w : World} {g c : Nat} {L : List UInt8} (h : Bytes w g L c) (hc : L.length ≤ c) (ty : TypeId) (o n m : Nat) (d : ByteArray) (ho : o + d.size ≤ L.length) (hn : d.size ≤ n) :
    (Builtin.copy_ #[69, 9] ty #[.slice (some ⟨g, o, none⟩) n m, .string d]).run Try.prog w = .ok (goInt d.size) (w.setCells g o (d.data.toList.map fun x => Value.int .u8 (x.toNat : Int))) :=
  Go.run_copy_string w 69 9 ty 5 g o n m d Try.underlying69 size_u8 hn (fun j hj => by rw [h.cell (by omega)]; rfl) (fun j hj => h.frozen (by omega))
set_option linter.unusedVariables false
set_option linter.unusedSimpArgs false
open Go.RowKit

theorem Z68 (x : List UInt8) (L : List (Nat × ByteArray)) (j : Nat) (hj : j < L.length) : applyL x (L.take (j + 1)) = putB (applyL x (L.take j)) (16 * atX L j) (datX L j).data.toList := by
  rw [List.take_add_one, List.getElem?_eq_getElem hj]
  simp only [Option.toList_some, Z0y]
  simp [atX, datX, List.getD, hj]
set_option maxRecDepth 100000 in
set_option maxHeartbeats 2000000 in
theorem Z42 (s : ByteArray) (n : Nat) (A : Option Addr) (len cap : Nat) (L : List (Nat × ByteArray)) (w : World) (hs : s.size = 16 * n) (hn : n ≤ 1000000) (hlen : L.length = len) (hm : len ≤ 1000000) (hrow : Row w A 2 xC L) (hx : ∀ x ∈ L, x.1 ≤ 1099511627776 ∧ x.2.size ≤ 1099511627776) (hg : goodX L = true) (hf : ∀ x ∈ L, x.1 + x.2.size / 16 ≤ n ∧ x.2.size % 16 = 0 ∧ 0 < x.2.size) :
    Calls Try.prog 28 #[.string s, .slice A len cap] w fun e w' => e = .returned (.tuple #[.string ⟨(applyL s.data.toList L).toArray⟩, .int .i64 0]) ∧ Ext w w' := by
  have hw16 : decide (s.size % 16 = 0) = true := by rw [decide_eq_true_iff]; omega
  have CW := fun W => Z0o s W (by omega)
  rw [hw16] at CW
  have HCW := Lib.hid CW
  have CG := Lib.hid (fun (W : World) (h : Ext w W) => (hg ▸ Z3j A len cap L W hlen hm (hrow.extx h) hx : Calls Try.prog 55 #[.slice A len cap] W fun e w' => e = .returned (.bool true) ∧ Ext W w'))
  have hany : L.any (farX n) = false := by
    rw [List.any_eq_false]
    intro x hxm
    have := hf x hxm
    unfold farX
    simp only [Bool.or_eq_true, decide_eq_true_eq, not_or]
    omega
  have CC := Lib.hid (fun (W : World) (h : Ext w W) (g : Nat) (hc : W.cell? ⟨g, 0, none⟩ = some (.int .i64 n)) (hgl : g < W.heap.size) => (hany ▸ Z29 n g A len cap L W hlen hm (by omega) (hrow.extx h) hx hc hgl : Calls Try.prog 57 #[.slice A len cap, .func (.func 56) #[] #[.pointer (some ⟨g, 0, none⟩)]] W fun e w' => e = .returned (.bool false) ∧ Ext W w'))
  have hdiv : (s.size : Int) / 16 = (n : Int) := by omega
  have hdl : s.data.toList.length = 16 * n := by rw [← hs]; simp
  have HDL := Lib.hid hdl
  have hAL := fun P h => Z1j n P s.data.toList hdl h
  have HAL := Lib.hid (fun j => (hAL (L.take j) (fun x hxm => ⟨(hf x (List.mem_of_mem_take hxm)).1, (hf x (List.mem_of_mem_take hxm)).2.1⟩)).trans hdl)
  clear CW hw16 hg hany hdl hAL
  go_enter Try.func28, Try.ntmps28
  go_wp2_with fail
  refine (HCW.out _).mono ?_
  rintro e w1 ⟨rfl, rfl⟩
  go_wp2_with fail
  refine (CG.out _ (Ext.refl _)).mono ?_
  rintro e w2 ⟨rfl, R2⟩
  have hC2 := Blk.new w2 3 #[.int .i64 n]
  have hE2 := R2.trans (Ext.alloc w2 (.cells #[.int .i64 n] 3))
  go_wp2_with fail
  refine (CC.out _ hE2 w2.heap.size (hC2.cell 0) hC2.lt).mono ?_
  rintro e w3 ⟨rfl, R3⟩
  have hE3 := hE2.trans R3
  have hz3 := hE3.size
  clear hC2 hE2 R2 R3 CC CG HCW
  obtain ⟨c, hc1, hc2, hcv⟩ := Z4n s w3 (by unfold maxLen; omega)
  go_upto_region 9 with fail
  have hB0 : Bytes (w3.drew.alloc (.cells (rowOf s.data.toList c) 5 (c, c + 1))) w3.heap.size (applyL s.data.toList (L.take 0)) c := Bytes.new_
  have hbl : Below w.heap.size w (w3.drew.alloc (.cells (rowOf s.data.toList c) 5 (c, c + 1))) := (Below.drew hE3).alloc hz3 _
  clear hcv hE3
  go_loopw [10, 30] (fun _ i wr => ∃ j : Nat, j ≤ len ∧ i = .int .i64 j ∧ Bytes wr w3.heap.size (applyL s.data.toList (L.take j)) c ∧ Below w.heap.size w wr) (fun _ i _ => len - (intOf i).toNat)
  case atStart => exact ⟨0, by omega, rfl, hB0, hbl⟩
  case round =>
    clear hB0 hbl
    obtain ⟨j, hj, rfl, hB, hbl⟩ := hrel
    have hal := HAL.out j
    by_cases hlt : j < len
    · have hjx : j < L.length := by omega
      obtain ⟨b0, o0, rfl, hlt0⟩ := hrow.x_in hbl hjx
      obtain ⟨q0, q1⟩ := hrow.x_at hbl hjx
      have hst := Z68 s.data.toList L j hjx
      have hal2 := HAL.out (j + 1)
      have hfj := hf _ (List.getElem_mem hjx)
      have e : L[j] = (atX L j, datX L j) := by simp [atX, datX, List.getD, hjx]
      rw [e] at hfj
      simp only at hfj
      generalize atX L j = K at q0 hst hfj
      generalize datX L j = D at q1 hst hfj
      generalize applyL s.data.toList (L.take j) = X at hB hst hal
      have hKD : 16 * K + D.size ≤ 16 * n := by omega
      have hset := hB.setCells D.data.toList (16 * K) _ _ (by have : D.data.toList.length = D.size := by simp
                                                              omega)
      rw [← hst] at hset
      obtain ⟨a, ha⟩ : ∃ a : Nat, 16 * K = a := ⟨_, rfl⟩
      rw [ha] at hset hKD
      have hca : ¬ c = a := by omega
      have hwm : IntKind.i64.wrap ((K : Int) * 16) = (a : Int) := by rw [IntWalk.i64_in _ (by omega)]; omega
      have hcp : ∀ (W : World), Ext wr W → ∀ m, (Builtin.copy_ #[69, 9] 3 #[.slice (some ⟨w3.heap.size, a, none⟩) (16 * n - a) m, .string D]).run Try.prog W = .ok (goInt D.size) (W.setCells w3.heap.size a (D.data.toList.map fun x => Value.int .u8 (x.toNat : Int))) := fun W h m =>
        Z7t (hB.below h) (by omega) _ a _ m D (by omega) (by omega)
      have HSET := Lib.hid (fun (W : World) (h : Ext wr W) => (by
        have := (hB.below h).setCells D.data.toList (16 * K) _ _ (by have : D.data.toList.length = D.size := by simp
                                                                     omega)
        rw [← hst, ha] at this
        exact this : Bytes (W.setCells w3.heap.size a (D.data.toList.map fun x => Value.int .u8 (x.toNat : Int))) w3.heap.size (applyL s.data.toList (L.take (j + 1))) c))
      have HCP := Lib.hid hcp
      have hEX := Ext.alloc wr (.cells #[.int .i64 K, .string D] 107)
      have HBX := Lib.hid (Blk.new wr 107 #[.int .i64 K, .string D])
      have hzr := hbl.size
      clear hset hst hB hal hal2 e hcp
      go_upto_region 11 with fail
      clear q0 q1
      refine Z06 (R := Ext) (w0 := (wr.alloc (.cells #[.int .i64 K, .string D] 107))) [[], [], [1], [1, 2], [0, 1, 2, 3], [], [5], [0, 1, 2, 3, 4, 5, 6]] [34, 35, 36, 37, 38, 39, 40] Ext.refl (fun _ _ _ => Ext.trans) (Ext.drew _) (by kernel_rfl) ?_
      apply Build.det 34 Ext.refl (by rfl) (by rfl) rfl
      case h =>
        intro ax wx hE hR hF
        have e8 : ax.eval (.tmp 8) = .slice (some ⟨w3.heap.size, 0, none⟩) (16 * n) c := hE.eval 8 (by rfl) rfl
        simp [go_sem, ↓IntWalk.iteOmega, ev e8, hwm]
        with_reducible rfl
      apply Build.det 35 Ext.refl (by rfl) (by rfl) rfl
      case h =>
        intro ax wx hE hR hF
        have e10 : ax.eval (.tmp 10) = .pointer (some ⟨wr.heap.size, 0, none⟩) := hE.eval 10 (by rfl) rfl
        simp [go_sem, ↓IntWalk.iteOmega, ev e10, hwm]
        with_reducible rfl
      apply Build.det 36 Ext.refl (by rfl) (by rfl) rfl
      case h =>
        intro ax wx hE hR hF
        have e35 := hF 1 (det 35 _) (by decide) (.head _)
        have hX2 := HBX.out.ext hR; have q0 := hX2.cell 0; have q1 := hX2.cell 1
        simp [go_sem, ↓IntWalk.iteOmega, ev e35, hwm, q0, q1]
        with_reducible rfl
      apply Build.det 37 Ext.refl (by rfl) (by rfl) rfl
      case h =>
        intro ax wx hE hR hF
        have e36 := hF 2 (det 36 _) (by decide) (.head _)
        simp [go_sem, ↓IntWalk.iteOmega, ev e36, hwm]
        with_reducible rfl
      apply Build.det 38 Ext.refl (by rfl) (by rfl) rfl
      case h =>
        intro ax wx hE hR hF
        have e34 := hF 0 (det 34 _) (by decide) (.tail _ (.tail _ (.tail _ (.head _))))
        have e37 := hF 3 (det 37 _) (by decide) (.head _)
        simp [go_sem, ↓IntWalk.iteOmega, ev e34, ev e37, hwm]
        with_reducible rfl
      apply Build.det 39 Ext.refl (by rfl) (by rfl) rfl
      case h =>
        intro ax wx hE hR hF
        have e10 : ax.eval (.tmp 10) = .pointer (some ⟨wr.heap.size, 0, none⟩) := hE.eval 10 (by rfl) rfl
        simp [go_sem, ↓IntWalk.iteOmega, ev e10, hwm]
        with_reducible rfl
      apply Build.det 40 Ext.refl (by rfl) (by rfl) rfl
      case h =>
        intro ax wx hE hR hF
        have e39 := hF 5 (det 39 _) (by decide) (.head _)
        have hX2 := HBX.out.ext hR; have q0 := hX2.cell 0; have q1 := hX2.cell 1
        simp [go_sem, ↓IntWalk.iteOmega, ev e39, hwm, q0, q1]
        with_reducible rfl
      apply Build.stop
      refine ⟨by kernel_rfl, .inr ⟨by kernel_rfl, _, rfl, rfl, ?_⟩⟩
      intro ax w5 hE R5 hF
      have e34 := hF 0 (det 34 _) (.tail _ (.tail _ (.tail _ (.tail _ (.tail _ (.tail _ (.head _)))))))
      have e35 := hF 1 (det 35 _) (.tail _ (.tail _ (.tail _ (.tail _ (.tail _ (.head _))))))
      have e36 := hF 2 (det 36 _) (.tail _ (.tail _ (.tail _ (.tail _ (.head _)))))
      have e37 := hF 3 (det 37 _) (.tail _ (.tail _ (.tail _ (.head _))))
      have e38 := hF 4 (det 38 _) (.tail _ (.tail _ (.head _)))
      have e39 := hF 5 (det 39 _) (.tail _ (.head _))
      have e40 := hF 6 (det 40 _) (.head _)
      rw [AllEq.frame (D := [34, 35, 36, 37, 38, 39, 40]) (AllEq.cons e34 (AllEq.cons e35 (AllEq.cons e36 (AllEq.cons e37 (AllEq.cons e38 (AllEq.cons e39 (AllEq.cons e40 (AllEq.nil)))))))) hE rfl]
      clear hF hE e34 e35 e36 e37 e38 e39 e40
      simp only [List.foldl_cons, List.foldl_nil, Act.put, List.setIfInBounds_toArray, List.set_cons_succ, List.set_cons_zero]
      have hE5 := hEX.trans R5
      have hcp5 := HCP.out w5 hE5
      refine Z0m (by simp [go_sem, hcp5, hca]; exact ⟨rfl, rfl⟩) ?_
      have hB6 := HSET.out w5 hE5
      have hbl6 : Below w.heap.size w (w5.setCells w3.heap.size a (D.data.toList.map fun x => Value.int .u8 (x.toNat : Int))) := Go.below_setCells hz3 _ _ _ (hbl.trans (hE5.mono hzr))
      generalize w5.setCells w3.heap.size a (D.data.toList.map fun x => Value.int .u8 (x.toNat : Int)) = w6 at hB6 hbl6 ⊢
      clear hE5 hcp5 R5 hEX HSET HCP HBX hwm
      go_wp2_with fail
      go_roundw
      case rel => exact ⟨j + 1, by omega, by go_num, hB6, hbl6⟩
      case measure => simp [intOf]; omega
    · obtain rfl : j = len := by omega
      have hfin : applyL s.data.toList (L.take j) = applyL s.data.toList L := by rw [List.take_of_length_le (by omega)]
      rw [hfin] at hB hal
      obtain ⟨X, hX⟩ : ∃ X, applyL s.data.toList L = X := ⟨_, rfl⟩
      rw [hX] at hB hal
      have HX := Lib.hid hX
      have hcv2 := hB.conv c (16 * n) (by omega)
      clear hB hX hfin
      go_wp2_with fail
      go_ret2
      exact ⟨by rw [HX.out]; rfl, hbl⟩
end Go.Proofs.Ytbfgacmfjfbooaa

/- diff.Apply of extents that can't be, or are too far (by the machine). -/
namespace Go.Proofs.Ytbfgacmfjfbooaa
set_option linter.unusedVariables false
set_option linter.unusedSimpArgs false
set_option linter.unusedVariables false
set_option linter.unusedSimpArgs false
open Go.RowKit

set_option maxRecDepth 10000 in
theorem Z7s (s : ByteArray) (n : Nat) (B : Option Addr) (c : Nat) (L : List (Nat × ByteArray)) (w0 : World) (hs : s.size = 16 * n) (hn : n ≤ 1000000) (hm : L.length ≤ 1000000) (hrow : Row w0 B 2 xC L) (hx : ∀ x ∈ L, x.1 ≤ 1099511627776 ∧ x.2.size ≤ 1099511627776) (hg : goodX L = false) :
    Calls Try.prog 28 #[.string s, .slice B L.length c] w0 fun e w' => e = .returned (.tuple #[.string ⟨#[]⟩, .int .i64 1]) ∧ Ext w0 w' := by
  have CW : ∀ w, Calls Try.prog 41 ⟨[.string s]⟩ w fun e w' => e = .returned (.bool true) ∧ Ext w w' := fun w => (Z0o s w (by omega)).mono fun e w' ⟨h1, h2⟩ => ⟨by rw [h1, decide_eq_true (by omega)], h2 ▸ Ext.refl _⟩
  refine fnG (OwnT.start w0) 45 Try.func28 rfl rfl rfl fun a h => ?_
  refine gX h [] rfl fun a w h => ?_
  refine gE h rfl (CW w) fun a w E h => ?_
  refine gX h [] rfl fun a w h => ?_
  refine gE h rfl (hg ▸ Z3j B L.length c L w rfl hm (hrow.extx h.O.below) hx) fun a w E h => ?_
  refine gX h [] rfl fun a w h => ?_
  exact gR h rfl ⟨rfl, h.O.below⟩
set_option maxRecDepth 10000 in
theorem Z7r (s : ByteArray) (n : Nat) (B : Option Addr) (c : Nat) (L : List (Nat × ByteArray)) (w0 : World) (hs : s.size = 16 * n) (hn : n ≤ 1000000) (hm : L.length ≤ 1000000) (hrow : Row w0 B 2 xC L) (hx : ∀ x ∈ L, x.1 ≤ 1099511627776 ∧ x.2.size ≤ 1099511627776) (hg : goodX L = true) (hf : L.any (farX n) = true) :
    Calls Try.prog 28 #[.string s, .slice B L.length c] w0 fun e w' => e = .returned (.tuple #[.string ⟨#[]⟩, .int .i64 9]) ∧ Ext w0 w' := by
  have CW : ∀ w, Calls Try.prog 41 ⟨[.string s]⟩ w fun e w' => e = .returned (.bool true) ∧ Ext w w' := fun w => (Z0o s w (by omega)).mono fun e w' ⟨h1, h2⟩ => ⟨by rw [h1, decide_eq_true (by omega)], h2 ▸ Ext.refl _⟩
  have hl : s.data.toList.length = 16 * n := by simpa using hs
  refine fnG (OwnT.start w0) 45 Try.func28 rfl rfl rfl fun a h => ?_
  refine gX h [] rfl fun a w h => ?_
  refine gE h rfl (CW w) fun a w E h => ?_
  refine gX h [] rfl fun a w h => ?_
  refine gE h rfl (hg ▸ Z3j B L.length c L w rfl hm (hrow.extx h.O.below) hx) fun a w E h => ?_
  refine gX h [vi (16 * n : Nat), vi n] rfl fun a w h => ?_
  refine gW h rfl fun g a w E h => ?_
  refine gX h [0] rfl fun a w h => ?_
  refine gE h rfl (hf ▸ Z29 n g B L.length c L w rfl hm (by omega) (hrow.extx h.O.below) hx ((h.O.b0.cell 0).trans rfl) h.O.b0.lt) fun a w E h => ?_
  refine gX h [] rfl fun a w h => ?_
  exact gR h rfl ⟨rfl, h.O.below⟩

theorem putB_nil0 (x : List UInt8) (i : Nat) : putB x i [] = x := by simp [putB]
theorem putB_set (x : List UInt8) (i k : Nat) (d : List UInt8) (hk : k < d.length) (h : i + d.length ≤ x.length) : (putB x i (d.take k)).set (i + k) (d[k]?.getD 0) = putB x i (d.take (k + 1)) := by
  have l1 : (d.take k).length = k := by rw [List.length_take]; omega
  have l2 : (d.take (k + 1)).length = k + 1 := by rw [List.length_take]; omega
  apply List.ext_getElem?
  intro j
  rw [List.getElem?_set, Z0n _ _ _ (by omega), Z12 _ _ _ (by omega), Z12 _ _ _ (by omega), l1, l2]
  by_cases h1 : i + k = j
  · subst h1
    rw [if_pos rfl, if_pos (by omega), if_pos (by omega), show i + k - i = k by omega, List.getElem?_take_of_lt (by omega), List.getElem?_eq_getElem hk]
    rfl
  · rw [if_neg h1]
    by_cases h2 : i ≤ j ∧ j < i + k
    · rw [if_pos h2, if_pos (by omega), List.getElem?_take_of_lt (by omega), List.getElem?_take_of_lt (by omega)]
    · rw [if_neg h2, if_neg (by omega)]
theorem Z69 (x : List UInt8) (L : List (Nat × ByteArray)) (j : Nat) (hj : j < L.length) : applyL x (L.take (j + 1)) = putB (applyL x (L.take j)) (16 * atX L j) (datX L j).data.toList := by
  rw [List.take_succ_eq_append_getElem hj, Z0y]
  simp [atX, datX, List.getD, hj]
theorem Z1b (x : List UInt8) : ∀ (L : List (Nat × ByteArray)), (∀ e ∈ L, 16 * e.1 + e.2.size ≤ x.length) → (applyL x L).length = x.length := by
  intro L
  induction L generalizing x with
  | nil => intro _; rfl
  | cons e L ih =>
    intro h
    have h0 := h e (by simp)
    have hl : (putB x (16 * e.1) e.2.data.toList).length = x.length := Z0n _ _ _ (by simpa using h0)
    show (applyL (putB x (16 * e.1) e.2.data.toList) L).length = _
    rw [ih _ (fun y hy => by rw [hl]; exact h y (by simp [hy])), hl]
set_option maxRecDepth 10000 in
theorem rapplyE {v : Value} (L : List (Nat × ByteArray)) (s : List UInt8) (w : World) (hr : (tXs v L).holds w) (hl : L.length ≤ 1000000) (hs : s.length ≤ 1000000) (hf : ∀ e ∈ L, 16 * e.1 + e.2.size ≤ s.length) :
    Calls Try.prog 32 #[.string (sB s), v] w fun e w' => e = .returned (.string (sB (applyL s L))) ∧ Ext w w' := by
  obtain ⟨B, c, rfl⟩ := Z05 (show w.ownsRow 0 _ _ _ _ _ from hr)
  obtain ⟨ce, hc, hce⟩ := rowCe (show w.ownsRow 0 _ _ _ _ _ from hr)
  clear hr
  refine fnG (all0 w ce hc) 45 Try.func32 rfl rfl rfl fun a h => ?_
  refine gX h [] rfl fun a w h => ?_
  obtain ⟨g, cap, w', hr, hcap, O'⟩ := s2b (sB s) (by rw [Z00]; unfold maxLen; omega) h.O
  rw [Z00] at hr hcap
  refine spG h [] rfl rfl rfl (Z6h rfl (h.M.opv _ _ rfl) hr) O' trivial fun a h => ?_
  refine gX h [] rfl fun a w h => ?_
  refine lpG (G := Nat) (fun i => [(1, .slice B L.length c), (5, .slice (some ⟨g, 0, none⟩) s.length cap), (6, .int .i64 i)]) (fun i => tBy g (applyL s (L.take i)) cap :: [tAll _ ce hc]) (fun i => i ≤ L.length) (fun i => L.length - i) 0 h ⟨rfl, rfl, rfl, trivial⟩ h.O (Nat.zero_le _) fun i hi a w h => ?_
  have hlen : ∀ k, (applyL s (L.take k)).length = s.length := fun k => Z1b _ _ fun e he => hf e (List.mem_of_mem_take he)
  by_cases h1 : i < L.length
  · obtain ⟨b, c', hv, rfl⟩ := hce (by omega)
    obtain ⟨rfl, rfl⟩ : B = some ⟨b, 0, none⟩ ∧ c = c' := by injection hv with h1 h2 h3; exact ⟨h1, h3⟩
    clear hv
    refine gX h [.t] rfl fun a w h => ?_
    have q0 := flat0 L h1
    have q1 := flat1 L h1
    have hb : 16 * atX L i + (datX L i).size ≤ s.length := by
      have := hf _ (List.getElem_mem h1)
      simpa [atX, datX, List.getD, h1] using this
    have hst := Z69 s L i h1
    have hX := hlen i
    obtain ⟨d, hd⟩ : ∃ d, datX L i = d := ⟨_, rfl⟩
    obtain ⟨t, ht⟩ : ∃ t, atX L i = t := ⟨_, rfl⟩
    obtain ⟨X, hX0⟩ : ∃ X, applyL s (L.take i) = X := ⟨_, rfl⟩
    rw [hX0] at hX
    rw [hd] at q1 hb hst
    rw [ht] at q0 hb hst
    rw [hX0] at hst
    obtain ⟨n, hn⟩ : ∃ n, d.data.toList.length = n := ⟨_, rfl⟩
    have hsz : d.size = n := by rw [← hn]; simp
    rw [hsz] at hb
    refine lpG (G := Nat) (fun k => [(1, .slice (some ⟨b, 0, none⟩) L.length c), (5, .slice (some ⟨g, 0, none⟩) s.length cap), (6, .int .i64 i), (7, .int .i64 k)]) (fun k => tBy g (putB X (16 * t) (d.data.toList.take k)) cap :: [tAll _ (some (b, flatX L)) hc]) (fun k => k ≤ n) (fun k => n - k) 0 h ⟨rfl, rfl, rfl, rfl, trivial⟩ (by rw [List.take_zero, putB_nil0, ← hX0]; exact h.O) (Nat.zero_le _) fun k hk a w h => ?_
    by_cases h2 : k < n
    · obtain ⟨x, hx⟩ : ∃ x : UInt8, d.data.toList[k]?.getD 0 = x := ⟨_, rfl⟩
      have hset := putB_set X (16 * t) k d.data.toList (by omega) (by omega)
      rw [hx] at hset
      have hpl : (putB X (16 * t) (d.data.toList.take k)).length = s.length := by rw [Z0n _ _ _ (by rw [List.length_take]; omega), hX]
      refine gX h [pj (2 * i), 1, vs d, vi n, .t, .k [1], pj (2 * i), 0, vi t, vi (16 * t : Nat), vi (16 * t + k : Nat), pj (2 * i), 0, vs d, .v (.int .u8 (x.toNat : Int)), pj (16 * t + k)] rfl (hv := by (try simp only [AllP, inK, and_true, true_and]) <;> (repeat' apply And.intro) <;> first | exact trivial | rfl | assumption | exact (congrArg (fun z : UInt8 => (z.toNat : Int)) hx) | omega | (simp; done) | (simp; omega)) fun a w h => ?_
      refine gY h x (16 * t + k) rfl rfl rfl rfl rfl rfl rfl (by omega) (by omega) (fun w' O => ⟨O.all.2.1, trivial⟩) fun a w h => ?_
      rw [hset] at h
      refine gX h [] rfl fun a w h => ?_
      exact reG (k + 1) h ⟨rfl, rfl, rfl, rfl, trivial⟩ h.O h2 (by omega)
    · obtain rfl : k = n := by omega
      refine gX h [pj (2 * i), 1, vs d, vi k, .f] rfl fun a w h => ?_
      refine reG (i + 1) h ⟨rfl, rfl, rfl, trivial⟩ ?_ h1 (by omega)
      have := h.O
      rw [List.take_of_length_le (by omega), ← hst] at this
      exact this
  · obtain rfl : i = L.length := by omega
    refine gX h [.f] rfl fun a w h => ?_
    have hB : Bytes w g (applyL s (L.take L.length)) cap := h.O.all.1
    refine spG h [] rfl rfl rfl (Z6h rfl (h.M.opv _ _ rfl) (hB.conv cap s.length (hlen _))) h.O trivial fun a h => ?_
    refine gX h [] rfl fun a w h => ?_
    exact gR h rfl ⟨by rw [List.take_of_length_le (Nat.le_refl _)]; rfl, allE 1 h.O rfl⟩

theorem Z0j (P : List (Nat × ByteArray)) (t : Nat) (d : ByteArray) : flatX (P ++ [(t, d)]) = flatX P ++ [.int .i64 (t : Nat), .string d] := by simp [flatX]
theorem Z0w (P : List (Nat × ByteArray)) : (flatX P).length = 2 * P.length := by
  induction P with
  | nil => rfl
  | cons x P ih => simp only [flatX, List.flatMap_cons, List.length_append, List.length_cons, List.length_nil] at ih ⊢; omega
theorem Z5j (P : List (Nat × ByteArray)) (t : Nat) (d e : ByteArray) : (flatX (P ++ [(t, d)])).set (2 * P.length + 1) (.string e) = flatX (P ++ [(t, e)]) := by
  rw [Z0j, Z0j, List.set_append_right _ _ (by rw [Z0w]; omega), Z0w, show 2 * P.length + 1 - 2 * P.length = 1 by omega]
  rfl
theorem Z40 (P : List (Nat × ByteArray)) (t : Nat) (d : ByteArray) : (flatX (P ++ [(t, d)]))[2 * P.length + 1]? = some (.string d) := by
  rw [Z0j, List.getElem?_append_right (by rw [Z0w]; omega), Z0w, show 2 * P.length + 1 - 2 * P.length = 1 by omega]
  rfl
/-- The last extent ends ahead of sector k. -/
def Opn (L : List (Nat × ByteArray)) (k : Nat) : Prop := ∃ P x, L = P ++ [x] ∧ x.1 + x.2.size / 16 = k
theorem Z5e {L P : List (Nat × ByteArray)} {x : Nat × ByteArray} {k : Nat} {d : ByteArray} (h : L = P ++ [x]) (hk : x.1 + x.2.size / 16 = k) : laid L k d = P ++ [(x.1, x.2 ++ d)] := by
  subst h
  rw [Z1a, if_pos hk]
theorem Z5d {L : List (Nat × ByteArray)} {k : Nat} {d : ByteArray} (h : ¬ Opn L k) : laid L k d = L ++ [(k, d)] := by
  rcases List.eq_nil_or_concat L with rfl | ⟨P, y, rfl⟩
  · rfl
  · rw [List.concat_eq_append] at h ⊢
    rw [Z1a, if_neg fun hk => h ⟨P, y, rfl, hk⟩]
theorem opn_laid {L : List (Nat × ByteArray)} {k : Nat} {d : ByteArray} (hd : d.size = 16) (hL : ∀ x ∈ L, x.2.size % 16 = 0) : Opn (laid L k d) (k + 1) := by
  by_cases h : Opn L k
  · obtain ⟨P, x, rfl, hx⟩ := h
    rw [Z5e rfl hx]
    have := hL x (by simp)
    refine ⟨P, _, rfl, ?_⟩
    show x.1 + (x.2 ++ d).size / 16 = k + 1
    rw [ByteArray.size_append]
    omega
  · rw [Z5d h]
    exact ⟨L, _, rfl, by show k + d.size / 16 = k + 1; omega⟩
theorem Z84 (a : ByteArray) (k : Nat) : (a.data.toList.take (16 * k + 16)).drop (16 * k) = (secB a k).data.toList := by
  rw [Z1q, secAt, List.drop_take, show 16 * k + 16 - 16 * k = 16 by omega]
set_option maxRecDepth 10000 in
theorem rofE {H : Nat} {A : World} {R : List Thing} (a b : ByteArray) (n : Nat) (w : World) (O : OwnT H A R w) (ha : a.size = 16 * n) (hb : b.size = 16 * n) (hn : n ≤ 100000) :
    Calls Try.prog 25 #[.string a, .string b] w fun e w' => ∃ v, e = .returned v ∧ OwnT H A (tXs v (ofTo a b n) :: R) w' := by
  have la : a.data.toList.length = 16 * n := by simpa using ha
  have lb : b.data.toList.length = 16 * n := by simpa using hb
  refine fnG O 58 Try.func25 rfl rfl rfl fun ac h => ?_
  refine gX h [] rfl fun ac w h => ?_
  refine gZ h 73 2 rfl rfl rfl rfl fun g0 ac w h => ?_
  refine gX h [] rfl fun ac w h => ?_
  refine lpG (G := Nat × Bool × Value) (fun g => [(0, .string a), (1, .string b), (5, g.2.2), (6, .bool g.2.1), (7, .int .i64 g.1)]) (fun g => tXs g.2.2 (ofTo a b g.1) :: R) (fun g => g.1 ≤ n ∧ (g.2.1 = true ↔ Opn (ofTo a b g.1) g.1)) (fun g => n - g.1) (0, false, .slice (some ⟨g0, 0, none⟩) 0 0) h ⟨rfl, rfl, rfl, rfl, rfl, trivial⟩ h.O ⟨Nat.zero_le _, by simp [ofTo, Opn]⟩ fun g ⟨hk, hop⟩ ac w h => ?_
  obtain ⟨k, op, v⟩ := g
  simp only at hk hop h ⊢
  by_cases h1 : k < n
  · obtain ⟨hbd, -⟩ := Z0t a b n k hb hk
    have hs16 := Z23 b n k hb h1
    have hll := Z13 a b k
    have hof : ofTo a b (k + 1) = if secB b k = secB a k then ofTo a b k else laid (ofTo a b k) k (secB b k) := rfl
    have c1 := Z84 a k
    have c2 := Z84 b k
    obtain ⟨x, hx⟩ : ∃ x, secB a k = x := ⟨_, rfl⟩
    obtain ⟨y, hy⟩ : ∃ y, secB b k = y := ⟨_, rfl⟩
    obtain ⟨L, hL⟩ : ∃ L, ofTo a b k = L := ⟨_, rfl⟩
    rw [hx] at c1 hof
    rw [hy] at c2 hof hs16
    rw [hL] at hof hop hbd h hll
    by_cases hxy : x = y
    · subst hxy
      rw [if_pos rfl] at hof
      refine gX h [vi (16 * k : Nat), .t, vi (16 * k : Nat), vi (16 * k : Nat), vi (16 * k + 16 : Nat), vs x, vi (16 * k : Nat), vi (16 * k : Nat), vi (16 * k + 16 : Nat), vs x, .t] rfl fun ac w h => ?_
      exact reG (k + 1, false, v) h ⟨rfl, rfl, rfl, rfl, rfl, trivial⟩ (by show OwnT H A (tXs v (ofTo a b (k + 1)) :: R) w; rw [hof]; exact h.O) ⟨h1, by
        simp only [hof, Bool.false_eq_true, false_iff]
        rintro ⟨P, z, rfl, hz⟩
        have := hbd z (by simp)
        omega⟩ (by simp only; omega)
    · have hxl : ¬ x.data.toList = y.data.toList := fun e => hxy (by
        rcases x with ⟨⟨x⟩⟩; rcases y with ⟨⟨y⟩⟩; simp only at e; rw [e])
      rw [if_neg fun e => hxy e.symm] at hof
      have hon := opn_laid (L := L) (k := k) (d := y) hs16 fun z hz => (hbd z hz).2.1
      rw [← hof] at hon
      cases op with
      | false =>
        have hsh := Z5d (d := y) fun ho => absurd (hop.2 ho) (by simp)
        refine gX h [vi (16 * k : Nat), .t, vi (16 * k : Nat), vi (16 * k : Nat), vi (16 * k + 16 : Nat), vs x, vi (16 * k : Nat), vi (16 * k : Nat), vi (16 * k + 16 : Nat), vs y, .f] rfl fun ac w h => ?_
        refine gS h 73 2 rfl (fun g1 ac w hE h => ?_) (bytes := 24)
        refine gA (bytes := 24) h rfl 0 rfl (fun _ _ => rfl) (by omega) (fun _ _ _ _ => trivial) fun B c ac w h => ?_
        have q := Z40 L k ByteArray.empty
        rw [Z0j] at q
        have hyl : y.data.toList.length = 16 := by simpa using hs16
        refine gX h [vi (L.length + 1 : Nat), vi L.length, pj (2 * L.length), 0, vs ⟨#[]⟩, vs y] rfl (hv := by (try simp only [AllP, inK, and_true, true_and]) <;> (repeat' apply And.intro) <;> first | exact trivial | rfl | assumption | exact q | omega | (simp; done) | (simp; omega)) fun ac w h => ?_
        refine gQ h (.string y) (2 * L.length + 1) rfl rfl rfl rfl rfl rfl rfl rfl (by rw [List.length_append, Z0w]; simp) (fun _ _ => trivial) fun ac w h => ?_
        rw [← Z0j, Z5j] at h
        refine gX h [] rfl fun ac w h => ?_
        exact reG (k + 1, true, _) h ⟨rfl, rfl, rfl, rfl, rfl, trivial⟩ (by
          show OwnT H A (tRow _ 2 _ (ofTo a b (k + 1)).length (flatX (ofTo a b (k + 1))) :: R) w
          rw [hof, hsh, List.length_append]
          exact h.O) ⟨h1, by simp only [hon]⟩ (by simp only; omega)
      | true =>
        obtain ⟨P, ⟨t, d⟩, rfl, hz⟩ := hop.1 rfl
        have hsh := Z5e (d := y) (P := P) rfl hz
        have hlen : (P ++ [(t, d)]).length = P.length + 1 := by simp
        have O2 := h.O
        unfold tXs at O2
        rw [hlen] at O2 hll
        replace h := h.with O2
        obtain ⟨B, c, rfl⟩ := OwnT.slice0 O2 (by omega)
        have q := Z40 P t d
        have hds := hbd (t, d) (by simp)
        simp only at hds hz hsh
        have hdl : d.data.toList.length = d.size := by simp
        have hyl : y.data.toList.length = 16 := by simpa using hs16
        refine gX h [vi (16 * k : Nat), .t, vi (16 * k : Nat), vi (16 * k : Nat), vi (16 * k + 16 : Nat), vs x, vi (16 * k : Nat), vi (16 * k : Nat), vi (16 * k + 16 : Nat), vs y, .f, vi (P.length + 1 : Nat), vi P.length, pj (2 * P.length), 0, vs d, vs (d ++ y)] rfl fun ac w h => ?_
        refine gQ h (.string (d ++ y)) (2 * P.length + 1) rfl rfl rfl rfl rfl rfl rfl rfl (by rw [Z0j, List.length_append, Z0w]; simp) (fun _ _ => trivial) fun ac w h => ?_
        rw [Z5j] at h
        refine gX h [] rfl fun ac w h => ?_
        exact reG (k + 1, true, _) h ⟨rfl, rfl, rfl, rfl, rfl, trivial⟩ (by
          show OwnT H A (tRow _ 2 _ (ofTo a b (k + 1)).length (flatX (ofTo a b (k + 1))) :: R) w
          rw [hof, hsh, List.length_append]
          exact h.O) ⟨h1, by simp only [hon]⟩ (by simp only; omega)
  · obtain rfl : k = n := by omega
    refine gX h [vi (16 * k : Nat), .f] rfl fun ac w h => ?_
    exact gR h rfl ⟨_, rfl, h.O⟩

set_option maxHeartbeats 1000000 in
theorem Z5u (s : ByteArray) (w : World) (hs : s.size < 4) :
    Calls Try.prog 29 #[.string s] w fun e w' => e = .returned (.tuple #[.string ⟨#[]⟩, .bool false]) ∧ Below w.heap.size w w' := by
  go_enter Try.func29, Try.ntmps29
  go_wp2_with fail
  go_ret2
  exact ⟨rfl, by (repeat (first | with_reducible exact Below.refl _ _ | with_reducible assumption | with_reducible apply Below.drew | with_reducible apply Z0b | (with_reducible refine Z0k ?_ ?_; focus ((try simp); (try omega); done)) | (with_reducible refine Z0l ?_ ?_; focus ((try simp); (try omega); done))))⟩

theorem Z52 (s q : ByteArray) (w : World) (hs : 4 ≤ s.size) (hs2 : s.size ≤ 1099511627776) (h : (⟨(sealL (s.data.toList.take (s.size - 4))).toArray⟩ : ByteArray) = q) :
    Calls Try.prog 23 #[.string (s.extract 0 (s.size - 4))] w fun e w' => e = .returned (.string q) ∧ Below w.heap.size w w' :=
  Z53 (s.extract 0 (s.size - 4)) q w (by rw [ByteArray.size_extract]; omega) (by rw [Z34 s _ (by omega)]; exact h)

set_option maxHeartbeats 1000000 in
theorem Z89 (s : ByteArray) (w : World) (hs : 4 ≤ s.size) (hs2 : s.size ≤ 1099511627776) (h : sealL (s.data.toList.take (s.size - 4)) = s.data.toList) :
    Calls Try.prog 29 #[.string s] w fun e w' => e = .returned (.tuple #[.string ⟨(s.data.toList.take (s.size - 4)).toArray⟩, .bool true]) ∧ Below w.heap.size w w' := by
  have H := Lib.hid (fun W => Z52 s s W hs hs2 (by rw [h, Z0x]))
  clear h
  go_enter Try.func29, Try.ntmps29
  go_wp2_with fail
  refine (H.out _).mono ?_
  rintro e w1 ⟨rfl, hb⟩
  go_wp2_with fail
  go_ret2
  exact ⟨by rw [← cut_eq s (s.size - 4) (by omega)]; rfl, hb⟩

set_option maxHeartbeats 1000000 in
theorem ropen_no (s : ByteArray) (w : World) (hs : 4 ≤ s.size) (hs2 : s.size ≤ 1099511627776) (h : ¬ sealL (s.data.toList.take (s.size - 4)) = s.data.toList) :
    Calls Try.prog 29 #[.string s] w fun e w' => e = .returned (.tuple #[.string ⟨#[]⟩, .bool false]) ∧ Below w.heap.size w w' := by
  obtain ⟨q, hq⟩ : ∃ q : ByteArray, (⟨(sealL (s.data.toList.take (s.size - 4))).toArray⟩ : ByteArray) = q := ⟨_, rfl⟩
  have hne : (q.toList == s.toList) = false := Z81 (fun e => h (by rw [e] at hq; have := congrArg (fun x : ByteArray => x.data.toList) hq; simpa using this))
  have H := Lib.hid (fun W => Z52 s q W hs hs2 hq)
  clear h hq
  go_enter Try.func29, Try.ntmps29
  go_wp2_with fail
  refine (H.out _).mono ?_
  rintro e w1 ⟨rfl, hb⟩
  go_wp2_with fail
  go_ret2
  exact ⟨rfl, hb⟩

theorem Z6s (l : List UInt8) (w : World) (hl : l.length ≤ 1000000000) : Calls Try.prog 24 #[.string (sB l)] w fun e w' => e = .returned (.int .u32 (crcSum l)) ∧ Ext w w' := by
  refine (Z6t (sB l) w (by rw [Z00]; omega)).mono ?_
  rintro e w' ⟨rfl, rfl⟩
  exact ⟨rfl, Ext.refl _⟩
abbrev zrs (n : Nat) : List UInt8 := List.replicate n 0
theorem rzerosE (n : Nat) (w : World) (hn : n ≤ 1000000) : Calls Try.prog 26 #[.int .i64 n] w fun e w' => e = .returned (.string (sB (zrs n))) ∧ Ext w w' := by
  refine fnG (OwnT.start w) 6 Try.func26 rfl rfl rfl fun a h => ?_
  refine gX h [] rfl fun a w1 h => ?_
  obtain ⟨g, w2, hr, hrow, hE⟩ := mk_bytes w1 n (by omega)
  refine spG h [] rfl rfl rfl (x_make rfl (h.M.opv _ _ rfl) (h.M.opv _ _ rfl) hr) (h.O.ext hE) trivial fun a h => ?_
  refine spG h [] rfl rfl rfl (Z6h rfl (h.M.opv _ _ rfl) (conv_rowR (l := zrs n) (by
    refine ⟨by simp, ?_⟩
    rcases hrow.2 with ⟨h0, _⟩ | ⟨g', cap, cur, h1, h2, h3⟩
    · cases h0
    · exact .inr ⟨g', cap, cur, h1, Nat.zero_le _, h3.1, h3.2.1, h3.2.2.1, h3.2.2.2.1, by rw [h3.2.2.2.2]; simp⟩) (by simp))) h.O trivial fun a h => ?_
  refine gX h [] rfl fun a w3 h => ?_
  exact gR h rfl ⟨rfl, h.O.below⟩
/-- Whether a stream can be. -/
def GoodS (k n was is : Nat) (L : List (Nat × ByteArray)) : Prop := (k = 1 ∨ k = 2) ∧ n ≤ 4096 ∧ goodX L = true ∧ fitsX L n ∧ (k = 2 ∨ was = 0 ∧ crcSum (applyL (zrs (16 * n)) L) = is)
open Classical in
noncomputable def goodS (k n was is : Nat) (L : List (Nat × ByteArray)) : Bool := decide (GoodS k n was is L)
theorem Z4m {L : List (Nat × ByteArray)} {n : Nat} (hg : goodX L = true) (hf : fitsX L n) : ∀ e ∈ L, 16 * e.1 + e.2.size ≤ 16 * n := by
  intro e he
  obtain ⟨i, hi, rfl⟩ := List.getElem_of_mem he
  have h1 := hf i hi
  have h2 := (by unfold goodX at hg; simpa using hg : ∀ i, i < L.length → okX L i) i hi
  unfold okX at h2
  simp only [atX, datX, List.getD, hi, List.getElem?_eq_getElem, Option.getD_some] at h1 h2
  omega
abbrev stA (k n was is : Nat) (v : Value) : Value := .agg #[.int .i64 k, .int .i64 n, .int .u32 was, .int .u32 is, v]
theorem Z2o {v : Value} {L : List (Nat × ByteArray)} {w w' : World} (h : (tXs v L).holds w) (E : Ext w w') : (tXs v L).holds w' := (tXs v L).chg h (Chg.of_ext E []) (by simp)
set_option maxRecDepth 10000 in
theorem rgood31E {v : Value} (k n was is : Nat) (L : List (Nat × ByteArray)) (w0 : World) (hr : (tXs v L).holds w0) (hl : L.length ≤ 1000000) (hx : ∀ x ∈ L, x.1 ≤ 1099511627776 ∧ x.2.size ≤ 1099511627776) (hk : k < 256) (hn : n < 4294967296) :
    Calls Try.prog 31 #[stA k n was is v] w0 fun e w' => e = .returned (.bool (goodS k n was is L)) ∧ Ext w0 w' := by
  have yes : GoodS k n was is L → goodS k n was is L = true := fun h => by simp [goodS, h]
  have no : ¬ GoodS k n was is L → goodS k n was is L = false := fun h => by simp [goodS, h]
  unfold GoodS at yes no
  refine fnG (OwnT.start w0) 56 Try.func31 rfl rfl rfl fun a h => ?_
  refine gX h [] rfl fun a w1 h => ?_
  refine gW h rfl fun g a w1 E h => ?_
  by_cases h1 : k = 1
  · subst h1
    by_cases h2 : n ≤ 4096
    rotate_left
    · refine gX h [0, .f, 0, .f, 0, .t] rfl fun a w2 h => ?_
      exact gR h rfl ⟨by rw [no (by omega)], h.O.below⟩
    refine gX h [0, .f, 0, .f, 0, .f, 0] rfl fun a w2 h => ?_
    refine gE h rfl (rgoodE L w2 (Z2o hr h.O.below) hl hx) fun a w3 E3 h => ?_
    have hr3 := Z2o hr h.O.below
    cases hg : goodX L with
    | false =>
      rw [hg] at h no
      refine gX h [] rfl fun a w2 h => ?_
      exact gR h rfl ⟨by rw [no (by simp)], h.O.below⟩
    | true =>
    rw [hg] at h
    refine gX h [0, 0] rfl fun a w4 h => ?_
    refine gE h rfl (rfitsE L n w4 (Z2o hr h.O.below) hl (by omega) hx) fun a w5 E5 h => ?_
    cases hf : decide (fitsX L n) with
    | false =>
      rw [hf] at h
      have hf := of_decide_eq_false hf
      refine gX h [] rfl fun a w2 h => ?_
      exact gR h rfl ⟨by rw [no (fun h => hf h.2.2.2.1)], h.O.below⟩
    | true =>
    rw [hf] at h
    have hf := of_decide_eq_true hf
    have hin := Z4m hg hf
    have hal : (applyL (zrs (16 * n)) L).length = 16 * n := by rw [Z1b _ _ (by simpa using hin)]; simp
    refine gX h [.k [99]] rfl fun a w6 h => ?_
    by_cases h3 : was = 0
    rotate_left
    · refine gDp Z10 Z07 h 21 [0, .f, 0, .f] rfl (by (try simp only [AllP, inK, and_true, true_and]) <;> (repeat' apply And.intro) <;> first | exact trivial | rfl | assumption | omega | (simp; done) | (simp; omega)) rfl (by kernel_rfl) (by kernel_rfl) fun a w7 E7 h => ?_
      refine gX h [] rfl fun a w8 h => ?_
      exact gR h rfl ⟨by rw [no (by omega)], h.O.below⟩
    have C1 : ∀ w, OwnT w0.heap.size w0 [tBlk g 30 ⟨[.int .i64 (1 : Nat), .int .i64 n, .int .u32 was, .int .u32 is, v]⟩] w → Calls Try.prog 26 ⟨[.int .i64 (16 * n : Nat)]⟩ w fun e w' => e = .returned (.string (sB (zrs (16 * n)))) ∧ Ext w w' := fun w O => rzerosE (16 * n) w (by omega)
    have C2 : ∀ w, OwnT w0.heap.size w0 [tBlk g 30 ⟨[.int .i64 (1 : Nat), .int .i64 n, .int .u32 was, .int .u32 is, v]⟩] w → Calls Try.prog 32 ⟨[.string (sB (zrs (16 * n))), v]⟩ w fun e w' => e = .returned (.string (sB (applyL (zrs (16 * n)) L))) ∧ Ext w w' := fun w O => rapplyE L (zrs (16 * n)) w (Z2o hr O.below) hl (by simp; omega) (by simpa using hin)
    have C3 : ∀ w, OwnT w0.heap.size w0 [tBlk g 30 ⟨[.int .i64 (1 : Nat), .int .i64 n, .int .u32 was, .int .u32 is, v]⟩] w → Calls Try.prog 24 ⟨[.string (sB (applyL (zrs (16 * n)) L))]⟩ w fun e w' => e = .returned (.int .u32 (crcSum (applyL (zrs (16 * n)) L))) ∧ Ext w w' := fun w O => Z6s _ w (by omega)
    generalize hap : applyL (zrs (16 * n)) L = AP at C2 C3 yes no
    by_cases h4 : crcSum AP = is
    · refine gDp Z10 Z07 h 21 [0, .f, 0, .t, 0, vi n, vi (16 * n : Nat), .v (.string (sB (zrs (16 * n)))), 0, .v v, .v (.string (sB AP)), .v (.int .u32 (crcSum AP)), 0, .t] rfl (by (try simp only [AllP, inK, and_true, true_and]) <;> (repeat' apply And.intro) <;> first | exact trivial | rfl | assumption | exact C1 | exact C2 | exact C3 | omega | (simp; done) | (simp; omega)) rfl (by kernel_rfl) (by kernel_rfl) fun a w7 E7 h => ?_
      refine gX h [] rfl fun a w8 h => ?_
      exact gR h rfl ⟨by rw [yes ⟨.inl rfl, h2, hg, hf, .inr ⟨h3, h4⟩⟩], h.O.below⟩
    · refine gDp Z10 Z07 h 21 [0, .f, 0, .t, 0, vi n, vi (16 * n : Nat), .v (.string (sB (zrs (16 * n)))), 0, .v v, .v (.string (sB AP)), .v (.int .u32 (crcSum AP)), 0, .f] rfl (by (try simp only [AllP, inK, and_true, true_and]) <;> (repeat' apply And.intro) <;> first | exact trivial | rfl | assumption | exact C1 | exact C2 | exact C3 | omega | (simp; done) | (simp; omega)) rfl (by kernel_rfl) (by kernel_rfl) fun a w7 E7 h => ?_
      refine gX h [] rfl fun a w8 h => ?_
      exact gR h rfl ⟨by rw [no (by omega)], h.O.below⟩
  by_cases h1 : k = 2
  · subst h1
    by_cases h2 : n ≤ 4096
    rotate_left
    · refine gX h [0, .t, 0, .f, 0, .f, 0, .t] rfl fun a w2 h => ?_
      exact gR h rfl ⟨by rw [no (by omega)], h.O.below⟩
    refine gX h [0, .t, 0, .f, 0, .f, 0, .f, 0] rfl fun a w2 h => ?_
    refine gE h rfl (rgoodE L w2 (Z2o hr h.O.below) hl hx) fun a w3 E3 h => ?_
    have hr3 := Z2o hr h.O.below
    cases hg : goodX L with
    | false =>
      rw [hg] at h no
      refine gX h [] rfl fun a w2 h => ?_
      exact gR h rfl ⟨by rw [no (by simp)], h.O.below⟩
    | true =>
    rw [hg] at h
    refine gX h [0, 0] rfl fun a w4 h => ?_
    refine gE h rfl (rfitsE L n w4 (Z2o hr h.O.below) hl (by omega) hx) fun a w5 E5 h => ?_
    cases hf : decide (fitsX L n) with
    | false =>
      rw [hf] at h
      have hf := of_decide_eq_false hf
      refine gX h [] rfl fun a w2 h => ?_
      exact gR h rfl ⟨by rw [no (fun h => hf h.2.2.2.1)], h.O.below⟩
    | true =>
    rw [hf] at h
    have hf := of_decide_eq_true hf
    refine gX h [.k [99]] rfl fun a w6 h => ?_
    refine gDp Z10 Z07 h 21 [0, .t] rfl (by (try simp only [AllP, inK, and_true, true_and]) <;> (repeat' apply And.intro) <;> first | exact trivial | rfl | assumption | omega | (simp; done) | (simp; omega)) rfl (by kernel_rfl) (by kernel_rfl) fun a w7 E7 h => ?_
    refine gX h [] rfl fun a w8 h => ?_
    exact gR h rfl ⟨by rw [yes ⟨.inr rfl, h2, hg, hf, .inl rfl⟩], h.O.below⟩
  · refine gX h [0, .t, 0, .t] rfl fun a w2 h => ?_
    exact gR h rfl ⟨by rw [no (by omega)], h.O.below⟩

/-- The text whose sector i is of byte f i. -/
def txtL (f : Nat → UInt8) : Nat → List UInt8
  | 0 => []
  | n + 1 => txtL f n ++ secL (f n)
def txt (f : Nat → UInt8) (n : Nat) : ByteArray := ⟨(txtL f n).toArray⟩
theorem Z4e (b : UInt8) : (secL b).length = 16 := by simp [secL]
theorem Z22 (f : Nat → UInt8) (n : Nat) : (txtL f n).length = 16 * n := by
  induction n with
  | zero => rfl
  | succ n ih => simp only [txtL, List.length_append, ih, Z4e]; omega
theorem Z09 (f : Nat → UInt8) (n : Nat) : (txt f n).size = 16 * n := (List.size_toArray).trans (Z22 f n)
theorem Z1u (f : Nat → UInt8) (n : Nat) : (txt f n).data.toList = txtL f n := rfl
theorem txt_succ (f : Nat → UInt8) (n : Nat) : txt f n ++ ⟨(secL (f n)).toArray⟩ = txt f (n + 1) := mk_append _ _
theorem Z4x (x y : List UInt8) (n j : Nat) (hx : x.length = 16 * n) (hj : j < n) : secAt (x ++ y) j = secAt x j := by
  unfold secAt
  rw [List.drop_append_of_le_length (by omega), List.take_append_of_le_length (by rw [List.length_drop]; omega)]
theorem Z1x (f : Nat → UInt8) (n j : Nat) (hj : j < n) : secAt (txtL f n) j = secL (f j) := by
  induction n with
  | zero => omega
  | succ n ih =>
    by_cases h : j < n
    · rw [txtL, Z4x _ _ n j (Z22 f n) h, ih h]
    · obtain rfl : j = n := by omega
      unfold secAt
      rw [txtL, List.drop_left' (Z22 f j), List.take_of_length_le (by rw [Z4e]; omega)]
theorem secL_inj {a b : UInt8} (h : secL a = secL b) : a = b := by
  unfold secL at h
  have := congrArg (fun l => l.head?) h
  simpa using this
theorem Z6o (f : Nat → UInt8) (n j : Nat) (hj : j < n) : secB (txt f n) j = ⟨(secL (f j)).toArray⟩ := by
  apply Z1o
  rw [Z1q, Z1u, Z1x f n j hj]
theorem Z1p (f g : Nat → UInt8) (n j : Nat) (hj : j < n) : secB (txt g n) j = secB (txt f n) j ↔ g j = f j := by
  rw [Z6o f n j hj, Z6o g n j hj]
  constructor
  · intro h
    have := congrArg (fun b : ByteArray => b.data.toList) h
    exact secL_inj this
  · intro h; rw [h]
theorem Z7y (f g : Nat → UInt8) (n : Nat) : txt f n = txt g n ↔ ∀ j, j < n → g j = f j := by
  rw [Z7o (txt f n) (txt g n) n (Z09 f n) (Z09 g n)]
  constructor
  · exact fun h j hj => (Z1p f g n j hj).1 (h j hj)
  · exact fun h j hj => (Z1p f g n j hj).2 (h j hj)
/-- What was told makes of a third text. -/
theorem apply_txt (f g h : Nat → UInt8) (n : Nat) : (⟨(applyL (txt h n).data.toList (ofTo (txt f n) (txt g n) n)).toArray⟩ : ByteArray) = txt (fun i => if g i = f i then h i else g i) n := by
  apply Z1o
  obtain ⟨h1, h2⟩ := Z6a (txt f n) (txt g n) (txt h n).data.toList n n (Z09 g n) (by rw [Z1u, Z22]) (Nat.le_refl _)
  refine Z4w _ _ n h1 (by rw [Z1u, Z22]) (fun j hj => ?_)
  show secAt (applyL (txt h n).data.toList (ofTo (txt f n) (txt g n) n)) j = _
  rw [h2 j hj, Z1u, Z1u, Z1u, Z1x g n j hj, Z1x h n j hj, Z1x _ n j hj]
  by_cases e : g j = f j
  · rw [if_neg (fun k => k.2 ((Z1p f g n j hj).2 e)), if_pos e]
  · rw [if_pos ⟨hj, fun k => e ((Z1p f g n j hj).1 k)⟩, if_neg e]
/-- How many of k bytes differ. -/
def diffN (f g : Nat → UInt8) : Nat → Nat
  | 0 => 0
  | k + 1 => diffN f g k + if g k = f k then 0 else 1
theorem Z75 (f g : Nat → UInt8) (k : Nat) : diffN f g k ≤ k := by
  induction k with
  | zero => exact Nat.le_refl _
  | succ k ih => unfold diffN; split <;> omega
theorem Z66 (f g : Nat → UInt8) (n k : Nat) (hk : k ≤ n) : differN (txt f n) (txt g n) k = diffN f g k := by
  induction k with
  | zero => rfl
  | succ k ih =>
    rw [differN, diffN, ih (by omega)]
    by_cases e : g k = f k
    · rw [if_pos ((Z1p f g n k (by omega)).2 e), if_pos e]
    · rw [if_neg (fun h => e ((Z1p f g n k (by omega)).1 h)), if_neg e]
theorem Z77 : ∀ (L : List (Nat × ByteArray)) (m : Nat), apartL L m → ∀ i, i < L.length → 0 < (datX L i).size ∧ (datX L i).size % 16 = 0 ∧ (i = 0 ∨ atX L (i - 1) + (datX L (i - 1)).size / 16 < atX L i)
  | [], _, _, i, hi => by simp at hi
  | [x], m, h, i, hi => by
    obtain rfl : i = 0 := by simpa using hi
    obtain ⟨_, h2, h3, _⟩ := h
    exact ⟨h3, h2, .inl rfl⟩
  | x :: y :: L, m, h, 0, _ => by
    obtain ⟨_, h2, h3, _⟩ := h
    exact ⟨h3, h2, .inl rfl⟩
  | x :: y :: L, m, h, i + 1, hi => by
    obtain ⟨_, _, _, h4⟩ := h
    obtain ⟨g1, g2, g3⟩ := Z77 (y :: L) _ h4 i (by simpa using hi)
    refine ⟨g1, g2, .inr ?_⟩
    cases i with
    | zero =>
      have : x.1 + x.2.size / 16 + 1 ≤ y.1 := h4.1
      show x.1 + x.2.size / 16 < y.1
      omega
    | succ i =>
      rcases g3 with g3 | g3
      · omega
      · exact g3
theorem good_ofTo (a b : ByteArray) (n : Nat) (hb : b.size = 16 * n) : goodX (ofTo a b n) = true := by
  unfold goodX
  have h := (Z0t a b n n hb (Nat.le_refl _)).2
  have hk : ∀ i, i < (ofTo a b n).length → okX (ofTo a b n) i := fun i hi => Z77 _ 0 h i hi
  simp only [decide_eq_true_eq]
  exact hk
theorem bd_ofTo (a b : ByteArray) (n : Nat) (hb : b.size = 16 * n) (hn : n ≤ 1000000) : ∀ x ∈ ofTo a b n, x.1 ≤ 1099511627776 ∧ x.2.size ≤ 1099511627776 := fun x hx => by
  have := (Z0t a b n n hb (Nat.le_refl _)).1 x hx
  omega
end Go.Proofs.Ytbfgacmfjfbooaa
