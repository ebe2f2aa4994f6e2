/- Which cells can be, plain. -/
import Derived.Test.YtgdlnfljfiageaaDoorKGridBack08
import Derived.Lib.ValidLaws
import Derived.Lib.SlTrimSet
import Derived.Shelf.GgClosure.StringsIndexFunc
import Derived.KernelRfl
import Derived.Shelf.Unicode.ValidAny
import Derived.Test.YtgdlnfljfiageaaDoorProg
namespace Go.Proofs.YtgdlnfljfiageaaDoor
set_option linter.unusedVariables false
set_option linter.unusedSimpArgs false
/-- Which runes can't be in a cell. -/
def oddB (r : Nat) : Bool := decide (r < 32 ∨ r = 127 ∨ r = 9474)
theorem u8_of {n : Nat} {b : UInt8} (h : UInt8.ofNat n = b) : n % 256 = b.toNat := by
  have h1 := congrArg UInt8.toNat h
  rw [UInt8.toNat_ofNat'] at h1
  exact h1
def encC (c : Nat) : List UInt8 := if c < 128 then [UInt8.ofNat c] else if c < 2048 then [UInt8.ofNat (192 + c / 64), UInt8.ofNat (128 + c % 64)] else if c < 65536 then [UInt8.ofNat (224 + c / 4096), UInt8.ofNat (128 + c / 64 % 64), UInt8.ofNat (128 + c % 64)] else [UInt8.ofNat (240 + c / 262144), UInt8.ofNat (128 + c / 4096 % 64), UInt8.ofNat (128 + c / 64 % 64), UInt8.ofNat (128 + c % 64)]
def encW (c : Nat) : ByteArray := if c < 128 then ⟨#[UInt8.ofNat c]⟩ else if c < 2048 then ⟨#[UInt8.ofNat (192 + c / 64), UInt8.ofNat (128 + c % 64)]⟩ else if c < 65536 then ⟨#[UInt8.ofNat (224 + c / 4096), UInt8.ofNat (128 + c / 64 % 64), UInt8.ofNat (128 + c % 64)]⟩ else ⟨#[UInt8.ofNat (240 + c / 262144), UInt8.ofNat (128 + c / 4096 % 64), UInt8.ofNat (128 + c / 64 % 64), UInt8.ofNat (128 + c % 64)]⟩
theorem encW_is (r c : Nat) (hc : (if Utf8.valid (r : Int) then (r : Int).toNat else Utf8.runeError) = c) : Utf8.encode (r : Int) = encW c := by
  subst hc
  unfold Utf8.encode
  exact rfl
theorem by1 (a : UInt8) : (⟨#[a]⟩ : ByteArray) = sB [a] := rfl
theorem by2 (a b : UInt8) : (⟨#[a, b]⟩ : ByteArray) = sB [a, b] := rfl
theorem by3 (a b c : UInt8) : (⟨#[a, b, c]⟩ : ByteArray) = sB [a, b, c] := rfl
theorem by4 (a b c d : UInt8) : (⟨#[a, b, c, d]⟩ : ByteArray) = sB [a, b, c, d] := rfl
theorem encW_C (c : Nat) : encW c = sB (encC c) := by
  unfold encW encC
  by_cases c1 : c < 128
  · rw [if_pos c1, if_pos c1]; exact by1 _
  · rw [if_neg c1, if_neg c1]
    by_cases c2 : c < 2048
    · rw [if_pos c2, if_pos c2]; exact by2 _ _
    · rw [if_neg c2, if_neg c2]
      by_cases c3 : c < 65536
      · rw [if_pos c3, if_pos c3]; exact by3 _ _ _
      · rw [if_neg c3, if_neg c3]; exact by4 _ _ _ _
def encP (r : Nat) : Nat := if r < 55296 ∨ (57344 ≤ r ∧ r ≤ 1114111) then r else 65533
def encL (r : Nat) : List UInt8 := encC (encP r)
theorem encP_is (r : Nat) : (if Utf8.valid (r : Int) then (r : Int).toNat else Utf8.runeError) = encP r := by
  have hv : (Utf8.valid (r : Int) = true) = (r < 55296 ∨ (57344 ≤ r ∧ r ≤ 1114111)) := by
    simp only [Utf8.valid, Bool.and_eq_true, Bool.or_eq_true, decide_eq_true_eq]
    exact propext ⟨fun h => by omega, fun h => by omega⟩
  unfold encP
  rw [Int.toNat_natCast]
  simp only [hv]
  rfl
theorem encL_is (r : Nat) : Utf8.encode (r : Int) = sB (encL r) := (encW_is r _ (encP_is r)).trans (encW_C _)
theorem Z7q (c : Nat) (h : encC c = [226, 148, 130]) : c = 9474 := by
  unfold encC at h
  split at h
  · have := congrArg List.length h
    simp only [List.length_cons, List.length_nil] at this
    omega
  · split at h
    · have := congrArg List.length h
      simp only [List.length_cons, List.length_nil] at this
      omega
    · split at h
      · have g1 := u8_of (List.cons.inj h).1
        have g2 := u8_of (List.cons.inj (List.cons.inj h).2).1
        have g3 := u8_of (List.cons.inj (List.cons.inj (List.cons.inj h).2).2).1
        rw [show (226 : UInt8).toNat = 226 from rfl] at g1
        rw [show (148 : UInt8).toNat = 148 from rfl] at g2
        rw [show (130 : UInt8).toNat = 130 from rfl] at g3
        omega
      · have := congrArg List.length h
        simp only [List.length_cons, List.length_nil] at this
        omega
theorem enc_to (r : Nat) (h : encL r = [226, 148, 130]) : r = 9474 := by
  have h1 := Z7q _ h
  unfold encP at h1
  split at h1
  · exact h1
  · omega
theorem encP_n : encP 9474 = 9474 := if_pos (by omega)
theorem Z7p : encL 9474 = [226, 148, 130] := by
  unfold encL
  rw [encP_n]
  rfl
theorem Z6g (r : Nat) : encL r = [226, 148, 130] ↔ r = 9474 := ⟨enc_to r, fun h => by rw [h]; exact Z7p⟩
theorem Z43 (l : List UInt8) : Lib.decodeL l = dec l := Lib.decodeL_N l
/-- No odd rune. -/
theorem Z4q (p : Nat → Bool) (l : List UInt8) : ∀ (f pos : Nat), l.length - pos ≤ f → (Lib.idxFuncFrom p true (sB l) f pos < 0 ↔ ∀ x ∈ runesL (l.drop pos), p x.1 = false)
  | 0, pos, h => by
    rw [List.drop_eq_nil_of_le (by omega)]
    exact ⟨fun _ x hx => (by cases hx), fun _ => (by show (-1 : Int) < 0; decide)⟩
  | f + 1, pos, h => by
    unfold Lib.idxFuncFrom
    by_cases hp : pos < l.length
    · have hne : l.drop pos ≠ [] := by rw [Ne, List.drop_eq_nil_iff]; omega
      have hd := Z1n hne
      rw [if_pos (by rw [Z0m]; exact hp), Z86, Z19 hne]
      cases hb : p (dec (l.drop pos)).1 with
      | true =>
        rw [if_pos rfl]
        exact ⟨fun h => by omega, fun h => by have := h _ (List.mem_cons_self ..); rw [hb] at this; cases this⟩
      | false =>
        rw [if_neg (by decide), Z4q p l f _ (by omega), List.drop_drop]
        constructor
        · intro h x hx
          rcases List.mem_cons.1 hx with rfl | hx
          · exact hb
          · exact h x hx
        · intro h x hx
          exact h x (List.mem_cons_of_mem _ hx)
    · rw [if_neg (by rw [Z0m]; exact hp), List.drop_eq_nil_of_le (by omega)]
      exact ⟨fun _ x hx => (by cases hx), fun _ => (by decide)⟩
theorem idx_odd (p : Nat → Bool) (l : List UInt8) : Lib.idxFunc p true (sB l) < 0 ↔ ∀ x ∈ runesL l, p x.1 = false := by
  have h := Z4q p l l.length 0 (by omega)
  rw [List.drop_zero] at h
  rw [← h]
  unfold Lib.idxFunc
  rw [Z0m]
theorem Z49 : ∀ (n : Nat) (l : List UInt8), l.length ≤ n → (Lib.validD l = true ↔ ∀ x ∈ runesL l, x ≠ (65533, 1))
  | 0, l, h => by
    obtain rfl : l = [] := List.eq_nil_of_length_eq_zero (by omega)
    exact ⟨fun _ x hx => (by cases hx), fun _ => rfl⟩
  | n + 1, l, h => by
    by_cases hne : l = []
    · subst hne
      exact ⟨fun _ x hx => (by cases hx), fun _ => rfl⟩
    · have hd := Z1n hne
      rw [Lib.validD_step l hne, Z43, Z19 hne]
      have ih := Z49 n (l.drop (dec l).2) (by rw [List.length_drop]; omega)
      by_cases hb : (dec l).1 = 65533 ∧ (dec l).2 = 1
      · rw [if_pos hb]
        exact ⟨fun h => (by cases h), fun h => absurd (Prod.ext hb.1 hb.2) (h _ (List.mem_cons_self ..))⟩
      · rw [if_neg hb, ih]
        constructor
        · intro h x hx
          rcases List.mem_cons.1 hx with rfl | hx
          · exact fun e => hb (by rw [e]; exact ⟨rfl, rfl⟩)
          · exact h x hx
        · intro h x hx
          exact h x (List.mem_cons_of_mem _ hx)
theorem Z1h {p : UInt8 → Bool} : ∀ l : List UInt8, (l.dropWhile p).length ≤ l.length
  | [] => Nat.le_refl _
  | x :: r => by
    rw [List.dropWhile_cons]
    split
    · exact Nat.le_trans (Z1h r) (Nat.le_succ _)
    · exact Nat.le_refl _
theorem Z57 {p : UInt8 → Bool} {x : UInt8} {r : List UInt8} : ((x :: r).dropWhile p).length = r.length + 1 ↔ p x = false := by
  rw [List.dropWhile_cons]
  cases hx : p x with
  | true =>
    rw [if_pos rfl]
    have := Z1h (p := p) r
    exact ⟨fun h => by omega, fun h => (by cases h)⟩
  | false => rw [if_neg (by decide)]; exact ⟨fun _ => rfl, fun _ => rfl⟩
theorem trim_is (l : List UInt8) (c : UInt8) : Lib.trimB l c = l ↔ (l.head? ≠ some c ∧ l.getLast? ≠ some c) := by
  rcases List.eq_nil_or_concat l with rfl | ⟨q, y, rfl⟩
  · exact ⟨fun _ => ⟨by simp, by simp⟩, fun _ => rfl⟩
  · rw [List.concat_eq_append]
    have hr : Lib.trimRightB (q ++ [y]) c = if y = c then Lib.trimRightB q c else q ++ [y] := by
      unfold Lib.trimRightB
      rw [List.reverse_append]
      show ((y :: q.reverse).dropWhile _).reverse = _
      rw [List.dropWhile_cons]
      by_cases e : y = c
      · rw [if_pos (by simp [e]), if_pos e]
      · rw [if_neg (by simp [e]), if_neg e]
        simp
    have hlen : ∀ q : List UInt8, (Lib.trimRightB q c).length ≤ q.length := fun q => by
      unfold Lib.trimRightB
      rw [List.length_reverse]
      have := Z1h (p := (· == c)) q.reverse
      rwa [List.length_reverse] at this
    have hll : ∀ q : List UInt8, (Lib.trimLeftB q c).length ≤ q.length := fun q => Z1h q
    rw [List.getLast?_concat]
    unfold Lib.trimB
    rw [hr]
    by_cases e : y = c
    · rw [if_pos e]
      constructor
      · intro h
        have h1 := congrArg List.length h
        have h2 := hll (Lib.trimRightB q c)
        have h3 := hlen q
        rw [List.length_append] at h1
        simp only [List.length_cons, List.length_nil] at h1
        omega
      · rintro ⟨_, h⟩
        exact absurd (by rw [e]) h
    · rw [if_neg e]
      obtain ⟨x, r, hxr⟩ : ∃ x r, q ++ [y] = x :: r := by cases q with
        | nil => exact ⟨y, [], rfl⟩
        | cons a b => exact ⟨a, b ++ [y], rfl⟩
      rw [hxr]
      have hd := Z57 (p := (· == c)) (x := x) (r := r)
      constructor
      · intro h
        refine ⟨fun hx => ?_, fun h => e (by injection h)⟩
        have h1 := congrArg List.length h
        have h2 := hd.1 (by simpa [Lib.trimLeftB] using h1)
        injection hx with hx
        subst hx
        simp at h2
      · rintro ⟨h, _⟩
        have hx : ¬ x = c := fun e => h (by rw [e]; rfl)
        show List.dropWhile _ (x :: r) = _
        rw [List.dropWhile_cons, if_neg (by simp [hx])]
/-- Which cells can be; which rows. -/
def goodB (l : List UInt8) : Bool := (runesL l).all (fun x => !(x == (65533, 1)) && !oddB x.1) && (l.head? != some 32) && (l.getLast? != some 32)
theorem good_is (l : List UInt8) : goodB l = (Lib.validD l && decide (Lib.idxFunc oddB true (sB l) < 0) && decide (Lib.trimB l 32 = l)) := by
  have h1 := Z49 l.length l (Nat.le_refl _)
  have h2 := idx_odd oddB l
  have h3 := trim_is l 32
  rw [Bool.eq_iff_iff]
  simp only [goodB, Bool.and_eq_true, decide_eq_true_eq, h1, h2, h3, List.all_eq_true, bne_iff_ne, ne_eq, Bool.not_eq_true', beq_eq_false_iff_ne]
  constructor
  · rintro ⟨⟨h, a⟩, b⟩
    exact ⟨⟨fun x hx => (h x hx).1, fun x hx => (h x hx).2⟩, a, b⟩
  · rintro ⟨⟨h, h'⟩, a, b⟩
    exact ⟨⟨fun x hx => ⟨h x hx, h' x hx⟩, a⟩, b⟩
def tableB (X : List (List (List UInt8))) : Bool := decide (X.length ≤ 1000) && X.all fun T => decide (T.length = (X.headD []).length) && decide (T.length ≤ 100) && T.all goodB
end Go.Proofs.YtgdlnfljfiageaaDoor

/- The library's contracts that this proof uses, laid by the kit's own tool at this translation (plain words). -/
namespace Go.Proofs
open Go.Shelf
def Tryd.lays196_ren : Go.Shelf.Ren := ⟨fun | 196 => 49 | 259 => 67 | n => n, fun | 9 => 9 | 4 => 4 | 3 => 3 | 5 => 5 | 12 => 12 | 119 => 105 | 0 => 0 | 46 => 38 | 139 => 108 | 138 => 107 | 53 => 99 | n => n, fun | 3 => 0 | 4 => 1 | n => n⟩
theorem Tryd.lays196 : Go.Proofs.Lays.n196 Tryd.prog Tryd.lays196_ren := {
  mixed := by kernel_rfl
  f196 := Tryd.func49.trans (congrArg some (by kernel_rfl))
  f259 := Tryd.func67.trans (congrArg some (by kernel_rfl))
  t0 := Tryd.underlying0
  a0 := Tryd.isAgg0
  z0 := Tryd.sizeOf0
  v0 := Tryd.zeroValue0
  t3 := Tryd.underlying3
  a3 := Tryd.isAgg3
  z3 := Tryd.sizeOf3
  v3 := Tryd.zeroValue3
  t4 := Tryd.underlying4
  a4 := Tryd.isAgg4
  z4 := Tryd.sizeOf4
  v4 := Tryd.zeroValue4
  t5 := Tryd.underlying5
  a5 := Tryd.isAgg5
  z5 := Tryd.sizeOf5
  v5 := Tryd.zeroValue5
  t9 := Tryd.underlying9
  a9 := Tryd.isAgg9
  z9 := Tryd.sizeOf9
  v9 := Tryd.zeroValue9
  t12 := Tryd.underlying12
  a12 := Tryd.isAgg12
  z12 := Tryd.sizeOf12
  v12 := Tryd.zeroValue12
  t46 := Tryd.underlying38
  a46 := Tryd.isAgg38
  z46 := Tryd.sizeOf38
  v46 := Tryd.zeroValue38
  t53 := Tryd.underlying99
  a53 := Tryd.isAgg99
  z53 := Tryd.sizeOf99
  v53 := Tryd.zeroValue99
  t119 := Tryd.underlying105
  a119 := Tryd.isAgg105
  z119 := Tryd.sizeOf105
  t138 := Tryd.underlying107
  a138 := Tryd.isAgg107
  z138 := Tryd.sizeOf107
  v138 := Tryd.zeroValue107
  t139 := Tryd.underlying108
  a139 := Tryd.isAgg108
  z139 := Tryd.sizeOf108
  v139 := Tryd.zeroValue108
  g3 := by kernel_rfl
  g4 := by kernel_rfl }
end Go.Proofs

/- utf8.ValidString; what package variables hold. -/
namespace Go.Proofs.YtgdlnfljfiageaaDoor
set_option linter.unusedVariables false
set_option linter.unusedSimpArgs false
open Go.RowKit
/-- What the package variables hold that this code reads. -/
structure VarW (w : World) : Prop where
  tabs : Lib.Utf8Tabs 0 1 w
  maxLen : ∃ m, w.cell? ⟨2, 0, none⟩ = some (.int .i64 m)
theorem VarW.below {w w' : World} (h : VarW w) (hb : Below w.heap.size w w') : VarW w' := by
  refine ⟨Utf8Tabs_below h.tabs hb, ?_⟩
  obtain ⟨m, hm⟩ := h.maxLen
  have hlt : 2 < w.heap.size := by
    rcases Nat.lt_or_ge 2 w.heap.size with h1 | h1
    · exact h1
    · simp [World.cell?, Array.getElem?_eq_none h1] at hm
  exact ⟨m, (hb.cell (p := ⟨2, 0, none⟩) hlt).trans hm⟩
theorem Z29 (l : Tx) (w : World) (hl : l.length ≤ 1000000) (hv : VarW w) : Calls Tryd.prog 49 #[.string (sB l)] w fun e w' => e = .returned (.bool (Lib.validD l)) ∧ Ext w w' :=
  Any.utf8_ValidString Tryd.lays196 (sB l) w (by rw [Z0m]; omega) hv.tabs
end Go.Proofs.YtgdlnfljfiageaaDoor
