/- diff: texts of sectors; plain. -/
import Derived.Test.YtoiifcmjmjkcaaaKShipBack09
namespace Go.Proofs.Ytoiifcmjmjkcaaa
set_option linter.unusedVariables false
set_option linter.unusedSimpArgs false
open Go.RowKit

/-- The text whose sector i is of byte f i. -/
def txtL (f : Nat → UInt8) : Nat → List UInt8
  | 0 => []
  | n + 1 => txtL f n ++ secL (f n)
def txt (f : Nat → UInt8) (n : Nat) : ByteArray := ⟨(txtL f n).toArray⟩
theorem secL_len (b : UInt8) : (secL b).length = 16 := by simp [secL]
theorem txtL_len (f : Nat → UInt8) (n : Nat) : (txtL f n).length = 16 * n := by
  induction n with
  | zero => rfl
  | succ n ih => simp only [txtL, List.length_append, ih, secL_len]; omega
theorem txt_size (f : Nat → UInt8) (n : Nat) : (txt f n).size = 16 * n := (List.size_toArray).trans (txtL_len f n)
theorem txt_data (f : Nat → UInt8) (n : Nat) : (txt f n).data.toList = txtL f n := rfl
theorem txt_succ (f : Nat → UInt8) (n : Nat) : txt f n ++ ⟨(secL (f n)).toArray⟩ = txt f (n + 1) := mk_append _ _
theorem secAt_append (x y : List UInt8) (n j : Nat) (hx : x.length = 16 * n) (hj : j < n) : secAt (x ++ y) j = secAt x j := by
  unfold secAt
  rw [List.drop_append_of_le_length (by omega), List.take_append_of_le_length (by rw [List.length_drop]; omega)]
theorem secAt_txtL (f : Nat → UInt8) (n j : Nat) (hj : j < n) : secAt (txtL f n) j = secL (f j) := by
  induction n with
  | zero => omega
  | succ n ih =>
    by_cases h : j < n
    · rw [txtL, secAt_append _ _ n j (txtL_len f n) h, ih h]
    · obtain rfl : j = n := by omega
      unfold secAt
      rw [txtL, List.drop_left' (txtL_len f j), List.take_of_length_le (by rw [secL_len]; omega)]
theorem secL_inj {a b : UInt8} (h : secL a = secL b) : a = b := by
  unfold secL at h
  have := congrArg (fun l => l.head?) h
  simpa using this
theorem secB_txt (f : Nat → UInt8) (n j : Nat) (hj : j < n) : secB (txt f n) j = ⟨(secL (f j)).toArray⟩ := by
  apply str_ext
  rw [secB_data, txt_data, secAt_txtL f n j hj]
theorem secB_eq (f g : Nat → UInt8) (n j : Nat) (hj : j < n) : secB (txt g n) j = secB (txt f n) j ↔ g j = f j := by
  rw [secB_txt f n j hj, secB_txt g n j hj]
  constructor
  · intro h
    have := congrArg (fun b : ByteArray => b.data.toList) h
    exact secL_inj this
  · intro h; rw [h]
theorem txt_eq (f g : Nat → UInt8) (n : Nat) : txt f n = txt g n ↔ ∀ j, j < n → g j = f j := by
  rw [eq_iff_sec (txt f n) (txt g n) n (txt_size f n) (txt_size g n)]
  constructor
  · exact fun h j hj => (secB_eq f g n j hj).1 (h j hj)
  · exact fun h j hj => (secB_eq f g n j hj).2 (h j hj)
/-- What was told makes of a third text. -/
theorem apply_txt (f g h : Nat → UInt8) (n : Nat) : (⟨(applyL (txt h n).data.toList (ofTo (txt f n) (txt g n) n)).toArray⟩ : ByteArray) = txt (fun i => if g i = f i then h i else g i) n := by
  apply str_ext
  obtain ⟨h1, h2⟩ := applyL_ofTo (txt f n) (txt g n) (txt h n).data.toList n n (txt_size g n) (by rw [txt_data, txtL_len]) (Nat.le_refl _)
  refine secAt_ext _ _ n h1 (by rw [txt_data, txtL_len]) (fun j hj => ?_)
  show secAt (applyL (txt h n).data.toList (ofTo (txt f n) (txt g n) n)) j = _
  rw [h2 j hj, txt_data, txt_data, txt_data, secAt_txtL g n j hj, secAt_txtL h n j hj, secAt_txtL _ n j hj]
  by_cases e : g j = f j
  · rw [if_neg (fun k => k.2 ((secB_eq f g n j hj).2 e)), if_pos e]
  · rw [if_pos ⟨hj, fun k => e ((secB_eq f g n j hj).1 k)⟩, if_neg e]
/-- How many of k bytes differ. -/
def diffN (f g : Nat → UInt8) : Nat → Nat
  | 0 => 0
  | k + 1 => diffN f g k + if g k = f k then 0 else 1
theorem diffN_le (f g : Nat → UInt8) (k : Nat) : diffN f g k ≤ k := by
  induction k with
  | zero => exact Nat.le_refl _
  | succ k ih => unfold diffN; split <;> omega
theorem differN_txt (f g : Nat → UInt8) (n k : Nat) (hk : k ≤ n) : differN (txt f n) (txt g n) k = diffN f g k := by
  induction k with
  | zero => rfl
  | succ k ih =>
    rw [differN, diffN, ih (by omega)]
    by_cases e : g k = f k
    · rw [if_pos ((secB_eq f g n k (by omega)).2 e), if_pos e]
    · rw [if_neg (fun h => e ((secB_eq f g n k (by omega)).1 h)), if_neg e]
theorem apart_ok : ∀ (L : List (Nat × ByteArray)) (m : Nat), apartL L m → ∀ i, i < L.length → 0 < (datX L i).size ∧ (datX L i).size % 16 = 0 ∧ (i = 0 ∨ atX L (i - 1) + (datX L (i - 1)).size / 16 < atX L i)
  | [], _, _, i, hi => by simp at hi
  | [x], m, h, i, hi => by
    obtain rfl : i = 0 := by simpa using hi
    obtain ⟨_, h2, h3, _⟩ := h
    exact ⟨h3, h2, .inl rfl⟩
  | x :: y :: L, m, h, 0, _ => by
    obtain ⟨_, h2, h3, _⟩ := h
    exact ⟨h3, h2, .inl rfl⟩
  | x :: y :: L, m, h, i + 1, hi => by
    obtain ⟨_, _, _, h4⟩ := h
    obtain ⟨g1, g2, g3⟩ := apart_ok (y :: L) _ h4 i (by simpa using hi)
    refine ⟨g1, g2, .inr ?_⟩
    cases i with
    | zero =>
      have : x.1 + x.2.size / 16 + 1 ≤ y.1 := h4.1
      show x.1 + x.2.size / 16 < y.1
      omega
    | succ i =>
      rcases g3 with g3 | g3
      · omega
      · exact g3
theorem good_ofTo (a b : ByteArray) (n : Nat) (hb : b.size = 16 * n) : goodX (ofTo a b n) = true := by
  unfold goodX
  have h := (ofTo_bd a b n n hb (Nat.le_refl _)).2
  have hk : ∀ i, i < (ofTo a b n).length → okX (ofTo a b n) i := fun i hi => apart_ok _ 0 h i hi
  simp only [decide_eq_true_eq]
  exact hk
theorem bd_ofTo (a b : ByteArray) (n : Nat) (hb : b.size = 16 * n) (hn : n ≤ 1000000) : ∀ x ∈ ofTo a b n, x.1 ≤ 1099511627776 ∧ x.2.size ≤ 1099511627776 := fun x hx => by
  have := (ofTo_bd a b n n hb (Nat.le_refl _)).1 x hx
  omega
end Go.Proofs.Ytoiifcmjmjkcaaa
