/- diff: extents and what they make; plain. -/
import Derived.Test.YtoiifcmjmjkcaaaKShipBack02
import Derived.Test.YtoiifcmjmjkcaaaKShipBack00
import Derived.Still
namespace Go.Proofs.Ytoiifcmjmjkcaaa
set_option linter.unusedVariables false
set_option linter.unusedSimpArgs false
open Go.RowKit

/-- Sector i of a text. -/
def secB (s : ByteArray) (i : Nat) : ByteArray := s.extract (i * 16) ((i + 1) * 16)
/-- A sector that differs, laid to the extents so far. -/
def laid (L : List (Nat × ByteArray)) (i : Nat) (d : ByteArray) : List (Nat × ByteArray) :=
  match L.getLast? with
  | some x => if x.1 + x.2.size / 16 = i then L.dropLast ++ [(x.1, x.2 ++ d)] else L ++ [(i, d)]
  | none => L ++ [(i, d)]
open Classical in
/-- The extents behind k sectors. -/
noncomputable def ofTo (a b : ByteArray) : Nat → List (Nat × ByteArray)
  | 0 => []
  | k + 1 => if secB b k = secB a k then ofTo a b k else laid (ofTo a b k) k (secB b k)
theorem laid_last {P : List (Nat × ByteArray)} {x : Nat × ByteArray} {i : Nat} {d : ByteArray} : laid (P ++ [x]) i d = if x.1 + x.2.size / 16 = i then P ++ [(x.1, x.2 ++ d)] else P ++ [x] ++ [(i, d)] := by
  simp only [laid, List.getLast?_append, List.getLast?_singleton, Option.some_or, List.dropLast_concat]
theorem laid_nil {i : Nat} {d : ByteArray} : laid [] i d = [(i, d)] := rfl
theorem ofTo_len (a b : ByteArray) (k : Nat) : (ofTo a b k).length ≤ k := by
  induction k with
  | zero => simp [ofTo]
  | succ k ih =>
    rw [ofTo]
    split
    · omega
    · unfold laid
      split
      · split
        · simp; omega
        · simp; omega
      · simp; omega
theorem secB_size (b : ByteArray) (n k : Nat) (hb : b.size = 16 * n) (hk : k < n) : (secB b k).size = 16 := by unfold secB; rw [ByteArray.size_extract]; omega

/-- Each extent ends within k sectors; it has whole sectors, and some; they rise and are apart. -/
def apartL : List (Nat × ByteArray) → Nat → Prop
  | [], _ => True
  | x :: L, m => m ≤ x.1 ∧ x.2.size % 16 = 0 ∧ 0 < x.2.size ∧ apartL L (x.1 + x.2.size / 16 + 1)
theorem apartL_snoc : ∀ (L : List (Nat × ByteArray)) (x : Nat × ByteArray) (m : Nat), apartL (L ++ [x]) m ↔ apartL L m ∧ x.2.size % 16 = 0 ∧ 0 < x.2.size ∧ (match L.getLast? with | some y => y.1 + y.2.size / 16 + 1 ≤ x.1 | none => m ≤ x.1)
  | [], x, m => by simp [apartL]; exact ⟨fun ⟨a, b, c⟩ => ⟨b, c, a⟩, fun ⟨b, c, a⟩ => ⟨a, b, c⟩⟩
  | [y], x, m => by
    simp only [List.singleton_append, apartL, List.getLast?_singleton, and_true]
    constructor
    · rintro ⟨a, b, c, d, e, f⟩; exact ⟨⟨a, b, c⟩, e, f, d⟩
    · rintro ⟨⟨a, b, c⟩, e, f, d⟩; exact ⟨a, b, c, d, e, f⟩
  | y :: z :: L, x, m => by
    have ih := apartL_snoc (z :: L) x (y.1 + y.2.size / 16 + 1)
    rw [List.cons_append]
    simp only [apartL] at ih ⊢
    rw [List.cons_append] at ih
    simp only [apartL] at ih
    have e : (y :: z :: L).getLast? = (z :: L).getLast? := by simp [List.getLast?_cons]
    rw [e]
    constructor
    · rintro ⟨a, b, c, d⟩
      obtain ⟨h1, h2⟩ := ih.1 d
      exact ⟨⟨a, b, c, h1⟩, h2⟩
    · rintro ⟨⟨a, b, c, h1⟩, h2⟩
      exact ⟨a, b, c, ih.2 ⟨h1, h2⟩⟩
theorem ofTo_bd (a b : ByteArray) (n k : Nat) (hb : b.size = 16 * n) (hk : k ≤ n) : (∀ x ∈ ofTo a b k, x.1 + x.2.size / 16 ≤ k ∧ x.2.size % 16 = 0 ∧ 0 < x.2.size) ∧ apartL (ofTo a b k) 0 := by
  induction k with
  | zero => simp [ofTo, apartL]
  | succ k ih =>
    obtain ⟨ih, ih2⟩ := ih (by omega)
    have h16 := secB_size b n k hb (by omega)
    rw [ofTo]
    split
    · exact ⟨fun x hx => by have := ih x hx; omega, ih2⟩
    · have hnew : (k + (secB b k).size / 16 ≤ k + 1 ∧ (secB b k).size % 16 = 0 ∧ 0 < (secB b k).size) := by omega
      rcases List.eq_nil_or_concat (ofTo a b k) with h | ⟨P, y, h⟩
      · rw [h, laid_nil]
        exact ⟨fun x hx => by simp at hx; subst hx; exact hnew, by simp [apartL]; omega⟩
      · rw [List.concat_eq_append] at h
        rw [h] at ih ih2 ⊢
        have hy := ih y (by simp)
        rw [laid_last]
        rw [apartL_snoc] at ih2
        split
        · rename_i he
          refine ⟨fun x hx => ?_, (apartL_snoc _ _ _).2 ⟨ih2.1, ?_, ?_, ?_⟩⟩
          · rcases List.mem_append.1 hx with hx | hx
            · have := ih x (by simp [hx]); omega
            · simp at hx
              subst hx
              simp only [ByteArray.size_append, h16]
              omega
          · simp only [ByteArray.size_append, h16]; omega
          · simp only [ByteArray.size_append, h16]; omega
          · exact ih2.2.2.2
        · rename_i he
          refine ⟨fun x hx => ?_, (apartL_snoc _ _ _).2 ⟨(apartL_snoc _ _ _).2 ih2, hnew.2.1, hnew.2.2, ?_⟩⟩
          · rcases List.mem_append.1 hx with hx | hx
            · have := ih x hx; omega
            · simp at hx
              subst hx
              exact hnew
          · rw [List.getLast?_concat]
            show y.1 + y.2.size / 16 + 1 ≤ k
            omega

/-- Bytes laid on others. -/
def putB (x : List UInt8) (i : Nat) (d : List UInt8) : List UInt8 := x.take i ++ (d ++ x.drop (i + d.length))
theorem putB_length (x : List UInt8) (i : Nat) (d : List UInt8) (h : i + d.length ≤ x.length) : (putB x i d).length = x.length := by
  simp [putB]; omega
theorem putB_get (x : List UInt8) (i : Nat) (d : List UInt8) (h : i + d.length ≤ x.length) (j : Nat) : (putB x i d)[j]? = if i ≤ j ∧ j < i + d.length then d[j - i]? else x[j]? := by
  unfold putB
  have hl : (x.take i).length = i := by rw [List.length_take]; omega
  by_cases h1 : j < i
  · rw [List.getElem?_append_left (by omega), List.getElem?_take_of_lt h1, if_neg (by omega)]
  · rw [List.getElem?_append_right (by omega), hl]
    by_cases h2 : j < i + d.length
    · rw [if_pos ⟨by omega, h2⟩, List.getElem?_append_left (by omega)]
    · rw [if_neg (by omega), List.getElem?_append_right (by omega), List.getElem?_drop]
      congr 1
      omega
theorem putB_putB (x : List UInt8) (i : Nat) (d e : List UInt8) (h : i + d.length + e.length ≤ x.length) : putB (putB x i d) (i + d.length) e = putB x i (d ++ e) := by
  apply List.ext_getElem?
  intro j
  rw [putB_get _ _ _ (by rw [putB_length _ _ _ (by omega)]; omega), putB_get _ _ _ (by omega), putB_get _ _ _ (by rw [List.length_append]; omega), List.length_append]
  by_cases h1 : i + d.length ≤ j ∧ j < i + d.length + e.length
  · rw [if_pos h1, if_pos (by omega), List.getElem?_append_right (by omega)]
    congr 1
    omega
  · rw [if_neg h1]
    by_cases h2 : i ≤ j ∧ j < i + d.length
    · rw [if_pos h2, if_pos (by omega), List.getElem?_append_left (by omega)]
    · rw [if_neg h2, if_neg (by omega)]
def applyL (x : List UInt8) (L : List (Nat × ByteArray)) : List UInt8 := L.foldl (fun y e => putB y (16 * e.1) e.2.data.toList) x
theorem applyL_snoc (x : List UInt8) (L : List (Nat × ByteArray)) (e : Nat × ByteArray) : applyL x (L ++ [e]) = putB (applyL x L) (16 * e.1) e.2.data.toList := by simp [applyL]
/-- Sector j of bytes. -/
def secAt (x : List UInt8) (j : Nat) : List UInt8 := (x.drop (16 * j)).take 16
theorem secB_data (s : ByteArray) (j : Nat) : (secB s j).data.toList = secAt s.data.toList j := by
  unfold secB secAt
  rw [Lib.extract_data, show (j + 1) * 16 - j * 16 = 16 by omega, Nat.mul_comm]
theorem secAt_get (x : List UInt8) (j i : Nat) (h : i < 16) : (secAt x j)[i]? = x[16 * j + i]? := by
  unfold secAt
  rw [List.getElem?_take_of_lt h, List.getElem?_drop]
theorem secAt_ext (x y : List UInt8) (n : Nat) (hx : x.length = 16 * n) (hy : y.length = 16 * n) (h : ∀ j, j < n → secAt x j = secAt y j) : x = y := by
  apply List.ext_getElem?
  intro i
  by_cases hi : i < 16 * n
  · have : (secAt x (i / 16))[i % 16]? = (secAt y (i / 16))[i % 16]? := by rw [h (i / 16) (by omega)]
    rw [secAt_get _ _ _ (by omega), secAt_get _ _ _ (by omega), show 16 * (i / 16) + i % 16 = i by omega] at this
    exact this
  · rw [List.getElem?_eq_none (by omega), List.getElem?_eq_none (by omega)]
theorem secAt_putB (x d : List UInt8) (k j : Nat) (hd : d.length = 16) (h : 16 * k + 16 ≤ x.length) (hj : 16 * j + 16 ≤ x.length) : secAt (putB x (16 * k) d) j = if j = k then d else secAt x j := by
  apply List.ext_getElem?
  intro i
  by_cases hi : i < 16
  · rw [secAt_get _ _ _ hi, putB_get _ _ _ (by omega), hd]
    by_cases hjk : j = k
    · subst hjk
      rw [if_pos (by omega), if_pos rfl]
      congr 1
      omega
    · rw [if_neg (by omega), if_neg hjk, secAt_get _ _ _ hi]
  · have e1 : (secAt (putB x (16 * k) d) j).length ≤ 16 := by simp [secAt]; omega
    have e2 : (if j = k then d else secAt x j).length ≤ 16 := by split; omega; simp [secAt]; omega
    rw [List.getElem?_eq_none (by omega), List.getElem?_eq_none (by omega)]
theorem applyL_laid (x : List UInt8) (L : List (Nat × ByteArray)) (k : Nat) (d : ByteArray) (hd : d.size = 16) (hx : 16 * k + 16 ≤ x.length) (hL : ∀ e ∈ L, e.1 + e.2.size / 16 ≤ k ∧ e.2.size % 16 = 0) (hlen : ∀ P, (∀ e ∈ P, e ∈ L) → (applyL x P).length = x.length) :
    applyL x (laid L k d) = putB (applyL x L) (16 * k) d.data.toList := by
  rcases List.eq_nil_or_concat L with rfl | ⟨P, y, rfl⟩
  · rfl
  · rw [List.concat_eq_append] at hL hlen ⊢
    rw [laid_last]
    have hy := hL y (by simp)
    have hys : y.2.data.toList.length = y.2.size := by simp
    have hds : d.data.toList.length = d.size := by simp
    split
    · rename_i he
      rw [applyL_snoc, applyL_snoc]
      have hk : 16 * k = 16 * y.1 + y.2.data.toList.length := by omega
      rw [hk, putB_putB _ _ _ _ (by rw [hlen P (fun e he => by simp [he])]; omega)]
      rw [ByteArray.data_append, Array.toList_append]
    · rw [applyL_snoc]
theorem applyL_length (n : Nat) : ∀ (P : List (Nat × ByteArray)) (x : List UInt8), x.length = 16 * n → (∀ e ∈ P, e.1 + e.2.size / 16 ≤ n ∧ e.2.size % 16 = 0) → (applyL x P).length = x.length
  | [], _, _, _ => rfl
  | e :: P, x, hx, h => by
    have he := h e (by simp)
    have hs : e.2.data.toList.length = e.2.size := by simp
    have hp : (putB x (16 * e.1) e.2.data.toList).length = x.length := putB_length _ _ _ (by omega)
    have := applyL_length n P (putB x (16 * e.1) e.2.data.toList) (by omega) (fun z hz => h z (by simp [hz]))
    show (applyL (putB x (16 * e.1) e.2.data.toList) P).length = x.length
    omega
open Classical in
/-- What extents make of a text: the sectors that differ are the other one's. -/
theorem applyL_ofTo (a b : ByteArray) (x : List UInt8) (n k : Nat) (hb : b.size = 16 * n) (hx : x.length = 16 * n) (hk : k ≤ n) :
    (applyL x (ofTo a b k)).length = 16 * n ∧ ∀ j, j < n → secAt (applyL x (ofTo a b k)) j = if j < k ∧ ¬ secB b j = secB a j then secAt b.data.toList j else secAt x j := by
  have hlen := fun P h => applyL_length n P x hx h
  induction k with
  | zero => exact ⟨hx, fun j hj => by rw [if_neg (by omega)]; rfl⟩
  | succ k ih =>
    obtain ⟨i1, i2⟩ := ih (by omega)
    have h16 := secB_size b n k hb (by omega)
    have hbd := (ofTo_bd a b n k hb (by omega)).1
    rw [ofTo]
    by_cases he : secB b k = secB a k
    · rw [if_pos he]
      refine ⟨i1, fun j hj => ?_⟩
      rw [i2 j hj]
      by_cases hjk : j = k
      · subst hjk
        rw [if_neg (by omega), if_neg (fun h => h.2 he)]
      · have : (j < k ∧ ¬ secB b j = secB a j) ↔ (j < k + 1 ∧ ¬ secB b j = secB a j) := by constructor <;> rintro ⟨h1, h2⟩ <;> exact ⟨by omega, h2⟩
        simp only [this]
    · rw [if_neg he]
      have hd : (secB b k).data.toList.length = 16 := by have : (secB b k).data.toList.length = (secB b k).size := by simp
                                                         omega
      have e := applyL_laid x (ofTo a b k) k (secB b k) h16 (by omega) (fun z hz => ⟨(hbd z hz).1, (hbd z hz).2.1⟩) (fun P hP => hlen P (fun z hz => by have := hbd z (hP z hz); omega))
      rw [e]
      refine ⟨by rw [putB_length _ _ _ (by omega)]; exact i1, fun j hj => ?_⟩
      rw [secAt_putB _ _ _ _ hd (by omega) (by omega)]
      by_cases hjk : j = k
      · subst hjk
        rw [if_pos rfl, if_pos ⟨by omega, he⟩, secB_data]
      · rw [if_neg hjk, i2 j hj]
        have : (j < k ∧ ¬ secB b j = secB a j) ↔ (j < k + 1 ∧ ¬ secB b j = secB a j) := by constructor <;> rintro ⟨h1, h2⟩ <;> exact ⟨by omega, h2⟩
        simp only [this]
/-- How many sectors extents have. -/
def sumX : List (Nat × ByteArray) → Nat
  | [] => 0
  | x :: L => x.2.size / 16 + sumX L
theorem sumX_append (L M : List (Nat × ByteArray)) : sumX (L ++ M) = sumX L + sumX M := by
  induction L with
  | nil => simp [sumX]
  | cons x L ih => simp only [List.cons_append, sumX, ih]; omega
open Classical in
/-- How many of k sectors differ. -/
noncomputable def differN (a b : ByteArray) : Nat → Nat
  | 0 => 0
  | k + 1 => differN a b k + if secB b k = secB a k then 0 else 1
theorem sumX_ofTo (a b : ByteArray) (n k : Nat) (hb : b.size = 16 * n) (hk : k ≤ n) : sumX (ofTo a b k) = differN a b k := by
  induction k with
  | zero => rfl
  | succ k ih =>
    have ih := ih (by omega)
    have h16 := secB_size b n k hb (by omega)
    have hbd := (ofTo_bd a b n k hb (by omega)).1
    rw [ofTo, differN]
    by_cases he : secB b k = secB a k
    · rw [if_pos he, if_pos he]; exact ih
    · rw [if_neg he, if_neg he, ← ih]
      rcases List.eq_nil_or_concat (ofTo a b k) with h | ⟨P, y, h⟩
      · rw [h, laid_nil]
        show (secB b k).size / 16 + 0 = 0 + 1
        omega
      · rw [List.concat_eq_append] at h
        have hy := hbd y (by rw [h]; simp)
        rw [h, laid_last]
        split
        · simp only [sumX_append, sumX, ByteArray.size_append, h16]; omega
        · simp only [sumX_append, sumX, h16]
/-- Places and lengths. -/
def shapeX (L : List (Nat × ByteArray)) : List (Nat × Nat) := L.map fun e => (e.1, e.2.size)
theorem shape_laid (L M : List (Nat × ByteArray)) (k : Nat) (d e : ByteArray) (hs : shapeX L = shapeX M) (hd : d.size = e.size) : shapeX (laid L k d) = shapeX (laid M k e) := by
  rcases List.eq_nil_or_concat L with rfl | ⟨P, y, rfl⟩
  · have : M = [] := by simpa [shapeX] using hs.symm
    subst this
    rw [laid_nil, laid_nil]; simp [shapeX, hd]
  · rcases List.eq_nil_or_concat M with rfl | ⟨R, z, rfl⟩
    · simp [shapeX] at hs
    · rw [List.concat_eq_append, List.concat_eq_append] at hs ⊢
      simp only [shapeX, List.map_append, List.map_cons, List.map_nil] at hs
      obtain ⟨h1, h2⟩ := List.append_inj' hs rfl
      simp only [List.cons.injEq, Prod.mk.injEq, and_true] at h2
      rw [laid_last, laid_last, h2.1, h2.2]
      split
      · simp [shapeX, h1, h2.1, h2.2, hd]
      · simp [shapeX, h1, h2.1, h2.2, hd]
theorem shape_ofTo (a b : ByteArray) (n k : Nat) (ha : a.size = 16 * n) (hb : b.size = 16 * n) (hk : k ≤ n) : shapeX (ofTo a b k) = shapeX (ofTo b a k) := by
  induction k with
  | zero => rfl
  | succ k ih =>
    have ih := ih (by omega)
    rw [ofTo, ofTo]
    by_cases he : secB b k = secB a k
    · rw [if_pos he, if_pos he.symm]; exact ih
    · rw [if_neg he, if_neg (fun h => he h.symm)]
      exact shape_laid _ _ _ _ _ ih (by rw [secB_size b n k hb (by omega), secB_size a n k ha (by omega)])
theorem len_ofTo (a b : ByteArray) (n k : Nat) (ha : a.size = 16 * n) (hb : b.size = 16 * n) (hk : k ≤ n) : (ofTo a b k).length = (ofTo b a k).length := by
  have := congrArg List.length (shape_ofTo a b n k ha hb hk)
  simpa [shapeX] using this
theorem laid_ne (L : List (Nat × ByteArray)) (k : Nat) (d : ByteArray) : laid L k d ≠ [] := by
  rcases List.eq_nil_or_concat L with rfl | ⟨P, y, rfl⟩
  · simp [laid_nil]
  · rw [List.concat_eq_append, laid_last]; split <;> simp
theorem ofTo_nil (a b : ByteArray) (k : Nat) : ofTo a b k = [] ↔ ∀ j, j < k → secB b j = secB a j := by
  induction k with
  | zero => simp [ofTo]
  | succ k ih =>
    rw [ofTo]
    by_cases he : secB b k = secB a k
    · rw [if_pos he, ih]
      constructor
      · intro h j hj
        by_cases hjk : j = k
        · subst hjk; exact he
        · exact h j (by omega)
      · exact fun h j hj => h j (by omega)
    · rw [if_neg he]
      exact ⟨fun h => absurd h (laid_ne _ _ _), fun h => absurd (h k (by omega)) he⟩
/-- Two texts of as many sectors are the same just when no sector differs. -/
theorem eq_iff_sec (a b : ByteArray) (n : Nat) (ha : a.size = 16 * n) (hb : b.size = 16 * n) : a = b ↔ ∀ j, j < n → secB b j = secB a j := by
  constructor
  · rintro rfl _ _; rfl
  · intro h
    have la : a.data.toList.length = 16 * n := by simpa using ha
    have lb : b.data.toList.length = 16 * n := by simpa using hb
    have e := secAt_ext a.data.toList b.data.toList n la lb (fun j hj => by rw [← secB_data, ← secB_data, h j hj])
    rw [← bytes_eta a, e, bytes_eta]
end Go.Proofs.Ytoiifcmjmjkcaaa

/- A region that draws its order, by facts: each operation leaves a fact of its slot and of the world, that no later operation undoes; whatever order is drawn, behind the region all facts hold. No function of the program in sight. -/
namespace Go.Proofs.Ytoiifcmjmjkcaaa
set_option linter.unusedVariables false
set_option linter.unusedSimpArgs false
open Go.RowKit

/-- What an operation leaves: a fact of the slots L and of the world, kept by R. -/
structure TFact (R : World → World → Prop) where
  L : List Tmp
  T : Act → World → Prop
  loc : ∀ a a' w, (∀ t ∈ L, a.tmps[t]? = a'.tmps[t]?) → T a w → T a' w
  mono : ∀ a w w', R w w' → T a w → T a w'

structure Env (a0 : Act) (D : List Tmp) (a : Act) : Prop where
  size : a.tmps.size = a0.tmps.size
  defers : a.defers = a0.defers
  keep : ∀ t, t ∉ D → a.tmps[t]? = a0.tmps[t]?

def Yields (P : Program) (R : World → World → Prop) (o : Oper) (T : Act → World → Prop) (a : Act) (w : World) : Prop :=
  match (execOp a.eval o).run P w with
  | .ok (.value v) w' => R w w' ∧ T (a.put o.dst v) w'
  | .ok .skip w' => R w w' ∧ T (a.put o.dst undef) w'
  | .ok (.enter f args) w' => R w w' ∧ Calls P f args w' (fun e w'' => ∃ v, e = .returned v ∧ R w' w'' ∧ T (a.put o.dst v) w'')
  | _ => False
def opT (P : Program) (ops : Array Oper) (R : World → World → Prop) (o : Oper) (T : Act → World → Prop) (a : Act) (w : World) : Prop :=
  (Region.wanted o (yielded ops a.tmps) = true ∧ Yields P R o T a w) ∨ (Region.wanted o (yielded ops a.tmps) = false ∧ T (a.put o.dst undef) w)

/-- The check: edges go back; A lists ancestors; slots that facts read are their own operation's or an ancestor's. -/
def okB (ops : Array Oper) (D : List Tmp) (A : List (List Nat)) (Ls : List (List Tmp)) (m : Nat) : Bool :=
  (List.range ops.size).all fun k => match ops[k]? with
    | none => false
    | some o =>
      o.after.all (fun e => !Region.binds .any e || decide (e.on < k)) &&
      (A.getD k []).all (fun i => o.after.any fun e => Region.binds .any e && (e.on == i || (A.getD e.on []).contains i)) &&
      (decide (m ≤ k) || match o.dst with
        | none => true
        | some d => D.contains d && (List.range Ls.length).all fun i => i == k || (A.getD i []).contains k || !(Ls.getD i []).contains d)

section
variable {P : Program} {ops : Array Oper} {R : World → World → Prop} {w0 : World} {a0 : Act} {D : List Tmp} {A : List (List Nat)} {Fs : List (TFact R)} {m : Nat} {Q : Exit → Act → World → Prop}

theorem okB_at (h : okB ops D A (Fs.map TFact.L) m = true) {k : Nat} {o : Oper} (ho : ops[k]? = some o) :
    (∀ e ∈ o.after, Region.binds .any e = true → e.on < k) ∧
    (∀ i ∈ A.getD k [], ∃ e ∈ o.after, Region.binds .any e = true ∧ (e.on = i ∨ i ∈ A.getD e.on [])) ∧
    (k < m → ∀ d, o.dst = some d → d ∈ D ∧ ∀ i S, Fs[i]? = some S → i ≠ k → k ∉ A.getD i [] → d ∉ S.L) := by
  have hk : k < ops.size := (Array.getElem?_eq_some_iff.1 ho).1
  unfold okB at h
  rw [List.all_eq_true] at h
  have h1 := h k (List.mem_range.2 hk)
  simp only [ho, Bool.and_eq_true] at h1
  obtain ⟨⟨h1, h2⟩, h3⟩ := h1
  refine ⟨fun e he hb => ?_, fun i hi => ?_, fun hm d hd => ?_⟩
  · rw [Array.all_eq_true_iff_forall_mem] at h1
    have := h1 e he
    simpa [hb] using this
  · rw [List.all_eq_true] at h2
    have := h2 i hi
    rw [← Array.any_toList, List.any_eq_true] at this
    obtain ⟨e, he, hx⟩ := this
    rw [Array.mem_toList_iff] at he
    simp only [Bool.and_eq_true, Bool.or_eq_true, beq_iff_eq, List.contains_iff_mem] at hx
    exact ⟨e, he, hx.1, hx.2⟩
  · have hm' : decide (m ≤ k) = false := by simp; omega
    simp only [hm', hd, Bool.false_or, Bool.and_eq_true, List.contains_iff_mem] at h3
    refine ⟨h3.1, fun i S hS hne hna hmem => ?_⟩
    have h4 := h3.2
    rw [List.all_eq_true] at h4
    have hil : i < Fs.length := (List.getElem?_eq_some_iff.1 hS).1
    have := h4 i (List.mem_range.2 (by simpa using hil))
    simp only [Bool.or_eq_true, beq_iff_eq, List.contains_iff_mem, Bool.not_eq_true'] at this
    rcases this with (this | this) | this
    · exact hne this
    · exact hna this
    · have e : (Fs.map TFact.L).getD i [] = S.L := by simp [List.getD, hS]
      rw [e] at this
      have : S.L.contains d = true := by simpa using hmem
      simp_all

structure TInv (ops : Array Oper) (R : World → World → Prop) (w0 : World) (a0 : Act) (D : List Tmp) (Fs : List (TFact R)) (m : Nat) (listed : Array Bool) (a : Act) (w : World) : Prop where
  sz : listed.size = ops.size
  env : Env a0 D a
  r : R w0 w
  closed : ∀ j o, listed.getD j false = true → ops[j]? = some o → ∀ e ∈ o.after, Region.binds .any e = true → listed.getD e.on false = true
  typed : ∀ i S, listed.getD i false = true → Fs[i]? = some S → S.T a w
  un : ∀ i, m ≤ i → listed.getD i false = false

theorem anc_listed (hok : okB ops D A (Fs.map TFact.L) m = true) {listed : Array Bool} (hc : ∀ j o, listed.getD j false = true → ops[j]? = some o → ∀ e ∈ o.after, Region.binds .any e = true → listed.getD e.on false = true) (hs : listed.size = ops.size) :
    ∀ k o, ops[k]? = some o → (∀ e ∈ o.after, Region.binds .any e = true → listed.getD e.on false = true) → ∀ i ∈ A.getD k [], listed.getD i false = true := by
  intro k
  induction k using Nat.strongRecOn with
  | _ k ih =>
    intro o ho hp i hi
    obtain ⟨h1, h2, _⟩ := okB_at hok ho
    obtain ⟨e, he, hb, hx⟩ := h2 i hi
    rcases hx with rfl | hx
    · exact hp e he hb
    · have hl := hp e he hb
      have hlt := h1 e he hb
      have hk : k < ops.size := (Array.getElem?_eq_some_iff.1 ho).1
      have ho' : ops[e.on]? = some ops[e.on] := Array.getElem?_eq_getElem (by omega)
      exact ih e.on hlt _ ho' (hc e.on _ hl ho') i hx

theorem getD_set_self {listed : Array Bool} {i : Nat} (h : i < listed.size) (b : Bool) : (listed.setIfInBounds i true).getD i b = true := by
  simp [h]
theorem getD_of_size {listed : Array Bool} {i : Nat} (h : i < listed.size) (b c : Bool) : listed.getD i b = listed.getD i c := by
  simp [h]

theorem count_set {listed : Array Bool} {i : Nat} (h : i < listed.size) (hf : listed.getD i true = false) (n : Nat) (hn : listed.toList.count false = n + 1) : (listed.setIfInBounds i true).toList.count false = n := by
  have he : listed.toList[i]'(by simpa using h) = false := by simpa [h] using hf
  rw [Array.toList_setIfInBounds, List.count_set (by simpa using h), he]
  simp only [beq_self_eq_true, if_true, hn]
  simp

theorem typed_any (hrt : ∀ x y z, R x y → R y z → R x z) (hok : okB ops D A (Fs.map TFact.L) m = true) (hlen : Fs.length = m) (hm : m = ops.size ∨ (m + 1 = ops.size ∧ ∀ j, j < m → j ∈ A.getD m []))
    (hstep : ∀ (k : Nat) (o : Oper) (S : TFact R), ops[k]? = some o → Fs[k]? = some S → ∀ a w, Env a0 D a → R w0 w → (∀ (i : Nat) (S' : TFact R), i ∈ A.getD k [] → Fs[i]? = some S' → S'.T a w) → opT P ops R o S.T a w)
    (hend : ∀ a w, Env a0 D a → R w0 w → (∀ (i : Nat) (S : TFact R), Fs[i]? = some S → S.T a w) → if m = ops.size then Q .normal a w else wpOp P ops Q m (fun a w => Q .normal a w) a w) (hrr : ∀ x, R x x) :
    ∀ (fuel : Nat) (listed : Array Bool) (a : Act) (w : World), TInv ops R w0 a0 D Fs m listed a w → listed.toList.count false = fuel → wpAny P .any ops Q fuel listed a w := by
  intro fuel
  have hall : ∀ (listed : Array Bool), listed.size = ops.size → listed.toList.count false = 0 → Region.ready .any ops listed = [] ∧ ∀ i, i < ops.size → listed.getD i false = true := by
    intro listed hs h0
    rw [List.count_eq_zero] at h0
    have hx : ∀ i, i < ops.size → listed.getD i false = true := by
      intro i hi
      have hi' : i < listed.size := by omega
      have : listed[i] ∈ listed.toList := by simp
      have hne : listed[i] ≠ false := fun e => h0 (e ▸ this)
      simpa [hi'] using hne
    refine ⟨?_, hx⟩
    rw [List.eq_nil_iff_forall_not_mem]
    intro j hj
    obtain ⟨h1, o, ho, _⟩ := mem_ready.1 hj
    have hjs : j < ops.size := (Array.getElem?_eq_some_iff.1 ho).1
    have := hx j hjs
    rw [getD_of_size (by omega) false true] at this
    rw [this] at h1
    cases h1
  induction fuel with
  | zero =>
    intro listed a w hI h0
    obtain ⟨hr, hx⟩ := hall listed hI.sz h0
    refine ⟨hr, ?_⟩
    rcases hm with hm | ⟨hm, _⟩
    · have := hend a w hI.env hI.r (fun i S hS => hI.typed i S (hx i (by have := (List.getElem?_eq_some_iff.1 hS).1; omega)) hS)
      rwa [if_pos hm] at this
    · have h1 := hx m (by omega)
      have h2 := hI.un m (Nat.le_refl _)
      rw [h1] at h2
      cases h2
  | succ fuel ih =>
    intro listed a w hI hcnt
    refine ⟨fun hr => ?_, fun i hi => ?_⟩
    · exfalso
      have : ∀ k, k < ops.size → listed.getD k false = true := by
        intro k
        induction k using Nat.strongRecOn with
        | _ k ihk =>
          intro hk
          cases hl : listed.getD k false with
          | true => rfl
          | false =>
            have ho : ops[k]? = some ops[k] := Array.getElem?_eq_getElem hk
            have : k ∈ Region.ready .any ops listed := mem_ready.2 ⟨by rw [getD_of_size (by have := hI.sz; omega) true false]; exact hl, _, ho, fun e he hb => by
              have hlt := (okB_at hok ho).1 e he hb
              exact ihk e.on hlt (by omega)⟩
            rw [hr] at this
            cases this
      have hz : listed.toList.count false = 0 := by
        rw [List.count_eq_zero]
        intro hmem
        obtain ⟨i, hi, he⟩ := List.getElem_of_mem hmem
        have hi' : i < listed.size := by simpa using hi
        have := this i (by have := hI.sz; omega)
        simp [hi'] at this
        simp [this] at he
      omega
    · obtain ⟨hun, o, ho, hpre⟩ := mem_ready.1 hi
      have hio : i < ops.size := (Array.getElem?_eq_some_iff.1 ho).1
      have his : i < listed.size := by have := hI.sz; omega
      have hanc := anc_listed hok hI.closed hI.sz i o ho hpre
      by_cases him : i < m
      · obtain ⟨S, hS⟩ : ∃ S, Fs[i]? = some S := ⟨_, List.getElem?_eq_getElem (by omega)⟩
        have hst := hstep i o S ho hS a w hI.env hI.r (fun j S' hj hS' => hI.typed j S' (hanc j hj) hS')
        -- the state behind the operation
        have hnext : ∀ v w', R w w' → S.T (a.put o.dst v) w' → TInv ops R w0 a0 D Fs m (listed.setIfInBounds i true) (a.put o.dst v) w' := by
          intro v w' hR hT
          obtain ⟨_, _, h3⟩ := okB_at hok ho
          have h3 := h3 him
          refine ⟨by simpa using hI.sz, ⟨?_, ?_, ?_⟩, hrt _ _ _ hI.r hR, ?_, ?_, ?_⟩
          · rw [← hI.env.size]; cases hd : o.dst <;> simp [Act.put]
          · rw [← hI.env.defers]; cases hd : o.dst <;> simp [Act.put]
          · intro t ht
            rw [← hI.env.keep t ht]
            cases hd : o.dst with
            | none => simp [Act.put]
            | some d =>
              have := (h3 d hd).1
              have hne : d ≠ t := fun e => ht (e ▸ this)
              simp [Act.put, Array.getElem?_setIfInBounds_ne hne]
          · intro j oj hj hoj e he hb
            by_cases hji : i = j
            · subst hji
              rw [ho] at hoj
              cases hoj
              by_cases hei : i = e.on
              · rw [← hei]; exact getD_set_self his _
              · rw [getD_set_ne false hei]; exact hpre e he hb
            · rw [getD_set_ne false hji] at hj
              by_cases hei : i = e.on
              · rw [← hei]; exact getD_set_self his _
              · rw [getD_set_ne false hei]; exact hI.closed j oj hj hoj e he hb
          · intro j S' hj hS'
            by_cases hji : i = j
            · subst hji
              rw [hS] at hS'
              cases hS'
              exact hT
            · rw [getD_set_ne false hji] at hj
              have hold := S'.mono _ _ _ hR (hI.typed j S' hj hS')
              refine S'.loc _ _ _ (fun t ht => ?_) hold
              cases hd : o.dst with
              | none => simp [Act.put]
              | some d =>
                have hja : i ∉ A.getD j [] := by
                  intro hmem
                  obtain ⟨oj, hoj⟩ : ∃ oj, ops[j]? = some oj := ⟨_, Array.getElem?_eq_getElem (by have := (List.getElem?_eq_some_iff.1 hS').1; omega)⟩
                  have := anc_listed hok hI.closed hI.sz j oj hoj (hI.closed j oj hj hoj) i hmem
                  rw [getD_of_size his false true, hun] at this
                  cases this
                have hne : d ≠ t := fun e => (h3 d hd).2 j S' hS' (fun e => hji e.symm) hja (e ▸ ht)
                simp [Act.put, Array.getElem?_setIfInBounds_ne hne]
          · intro j hj
            have : i ≠ j := by omega
            rw [getD_set_ne false this]
            exact hI.un j hj
        have hk : ∀ v w', R w w' → S.T (a.put o.dst v) w' → wpAny P .any ops Q fuel (listed.setIfInBounds i true) (a.put o.dst v) w' :=
          fun v w' hR hT => ih _ _ _ (hnext v w' hR hT) (count_set his hun _ hcnt)
        unfold wpOp
        simp only [ho]
        rcases hst with ⟨hw, hy⟩ | ⟨hw, hT⟩
        · rw [if_pos hw]
          refine .inl ?_
          unfold Yields at hy
          unfold Oper.wp
          generalize (execOp a.eval o).run P w = r at hy ⊢
          cases r with
          | halt x w' => exact hy.elim
          | ok n w' =>
            cases n <;> simp only [Oper.upon] at hy ⊢
            case value v => exact hk v w' hy.1 hy.2
            case skip => exact hk undef w' hy.1 hy.2
            case enter f args =>
              refine hy.2.mono fun e w'' ⟨v, he, hR, hT⟩ => ?_
              subst he
              exact hk v w'' (hrt _ _ _ hy.1 hR) hT
        · rw [if_neg (by rw [hw]; exact Bool.false_ne_true)]
          exact hk undef w (hrr w) hT
      · rcases hm with hm | ⟨hm, hmall⟩
        · omega
        · obtain rfl : i = m := by omega
          have hl : ∀ j, j < i → listed.getD j false = true := fun j hj => hanc j (hmall j hj)
          have he := hend a w hI.env hI.r (fun j S hS => hI.typed j S (hl j (by have := (List.getElem?_eq_some_iff.1 hS).1; omega)) hS)
          rw [if_neg (by omega)] at he
          have hf0 : fuel = 0 := by
            have hz : (listed.setIfInBounds i true).toList.count false = 0 := by
              rw [List.count_eq_zero]
              intro hmem
              obtain ⟨j, hj, hje⟩ := List.getElem_of_mem hmem
              have hj' : j < listed.size := by simpa using hj
              by_cases hji : i = j
              · subst hji
                simp at hje
              · have := hl j (by have := hI.sz; omega)
                rw [← getD_set_ne (i := i) false hji] at this
                simp [hj'] at this
                rw [Array.getElem_toList, this] at hje
                cases hje
            have := count_set his hun _ hcnt
            omega
          subst hf0
          refine wpOp_mono (fun a' w' hq => ?_) he
          exact ⟨(hall _ (by simpa using hI.sz) (count_set his hun _ hcnt)).1, hq⟩

theorem none_yet (n i : Nat) : (Array.replicate n false).getD i false = false := by
  simp only [Array.getD_eq_getD_getElem?, Array.getElem?_replicate]
  split <;> rfl

/-- THE THEOREM: each operation's fact, shown once. -/
theorem wp_region_typed {id : Nat} {l : List Oper} {w : World} (Fs : List (TFact R)) (A : List (List Nat)) (D : List Tmp) (hf : P.follows .mixedOrders = true) (hok : okB l.toArray D A (Fs.map TFact.L) Fs.length = true)
    (hm : (decide (Fs.length = l.length) || (decide (Fs.length + 1 = l.length) && (List.range Fs.length).all fun j => (A.getD Fs.length []).contains j)) = true)
    (hrr : ∀ x, R x x) (hrt : ∀ x y z, R x y → R y z → R x z) (hw0 : R w0 w.drew)
    (hstep : ∀ (k : Nat) (o : Oper) (S : TFact R), l[k]? = some o → Fs[k]? = some S → ∀ a w, Env a0 D a → R w0 w → (∀ (i : Nat) (S' : TFact R), i ∈ A.getD k [] → Fs[i]? = some S' → S'.T a w) → opT P l.toArray R o S.T a w)
    (hend : ∀ a w, Env a0 D a → R w0 w → (∀ (i : Nat) (S : TFact R), Fs[i]? = some S → S.T a w) → if Fs.length = l.length then Q .normal a w else wpOp P l.toArray Q Fs.length (fun a w => Q .normal a w) a w) :
    (Code.region id l.toArray true).wp P Q a0 w := by
  refine wp_region_any hf ?_
  refine typed_any (a0 := a0) (w0 := w0) (R := R) (Fs := Fs) (A := A) (D := D) (m := Fs.length) hrt hok rfl ?_ (by simpa using hstep) (by simpa using hend) hrr _ _ _ _ ?_ (by simp)
  · simp only [Bool.or_eq_true, Bool.and_eq_true, decide_eq_true_eq, List.all_eq_true, List.mem_range, List.contains_iff_mem] at hm
    simpa using hm
  · refine ⟨by simp, ⟨rfl, rfl, fun _ _ => rfl⟩, hw0, ?_, ?_, ?_⟩
    · intro j o hj
      rw [none_yet] at hj
      cases hj
    · intro i S hi
      rw [none_yet] at hi
      cases hi
    · intro i _
      exact none_yet _ _
end
end Go.Proofs.Ytoiifcmjmjkcaaa
