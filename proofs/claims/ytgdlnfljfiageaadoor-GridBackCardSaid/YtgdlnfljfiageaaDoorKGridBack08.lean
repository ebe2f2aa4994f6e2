/- Rows and maps of one's own: what whole programs use. No function of a program in sight. -/
import Derived.Test.YtgdlnfljfiageaaDoorKGridBack06
import Derived.Test.YtgdlnfljfiageaaDoorKGridBack07
import Derived.Test.YtgdlnfljfiageaaDoorKGridBack05
import Derived.Lib.DecodeN
import Derived.Test.YtgdlnfljfiageaaDoorKGridBack03
import Derived.Laws.RangeString
import Derived.Lib.OthersKept
namespace Go.Proofs.YtgdlnfljfiageaaDoor
set_option linter.unusedVariables false
set_option linter.unusedSimpArgs false
open Go.RowKit Go.Maps Go.ChangeMaps Go.MapKept Go.WideShapes

theorem OwnT.nilRow {H : Nat} {A w : World} {R : List Thing} (h : OwnT H A R w) (T : TypeId) (k : Nat) : OwnT H A (tRow T k (.slice none 0 0) 0 [] :: R) w :=
  h.cons (Ext.refl _) (tRow T k (.slice none 0 0) 0 []) (World.ownsRow_nil _ _ _ _) (fun i hi => by simp [tRow, Value.ownBlock] at hi)
section
variable {H : Nat} {A w : World} {R : List Thing} {T : TypeId} {k n : Nat} {v : Value} {xs : List Value}
theorem OwnT.appendOne {P : Program} (h : OwnT H A (tRow T k v n xs :: R) w) (t : TypeId) (i : TypeInfo) (z : Value) (bytes : Nat) (ht : P.underlying t = some (.slice T)) (hi : P.info? T = some i) (hz : i.zero = some z)
    (hsize : i.size = k) (hby : i.bytes = bytes) (hzs : z.cells.size = k) (hk : 0 < k) (g : Nat) (tg : TypeId) (news : List Value) (hb : Blk w g tg news.toArray) (hl : news.length = k) (h1 : ∀ u ∈ news, u.oneCell' = true)
    (h63 : n + 1 ≤ maxLen) (hbytes : (n + 1) * bytes ≤ 140737488355328) :
    ∃ v' w', (∀ ty, (Builtin.append_ #[t, t] ty #[v, .slice (some ⟨g, 0, none⟩) 1 1]).run P w = .ok v' w') ∧ OwnT H A (tRow T k v' (n + 1) (xs ++ news) :: R) w' := by
  obtain ⟨v', w', hrun, h2, h3, h4⟩ := Z1e (P := P) w t t T i z k bytes ht hi hz hsize hby hzs hk v n xs h.r0 ⟨g, 0, none⟩ 1 1 news (by omega) (fun j u hu => by
    have := hb.cell j
    have hadd : (⟨g, 0, none⟩ : Addr).add j = ⟨g, j, none⟩ := by unfold Addr.add; split <;> simp_all
    rw [hadd, this]
    simpa using hu) h1 h63 hbytes
  exact ⟨v', w', fun _ => hrun, h.row h2 h3 h4⟩
end
/-- A row of one's own as data. -/
theorem Z3z {E : Type} {enc : E → List Value} {k : Nat} (hk : ∀ x, (enc x).length = k) (hk0 : 0 < k) {w : World} {base n : Nat} {T : TypeId} {v : Value} {X : List E} (h : w.ownsRow base T k v n (X.flatMap enc)) : ∃ B cap, v = .slice B n cap ∧ n ≤ cap ∧ cap ≤ maxLen ∧ X.length = n ∧ Row w B k enc X := by
  have hfl : ∀ X : List E, (X.flatMap enc).length = X.length * k := fun X => by
    induction X with
    | nil => simp
    | cons x X ih => rw [List.flatMap_cons, List.length_append, ih, hk, List.length_cons, Nat.succ_mul]; omega
  have hl : X.length = n := by
    have := h.1
    rw [hfl] at this
    exact Nat.eq_of_mul_eq_mul_right hk0 this
  have hF := World.ownsRowF_of h
  rcases h.2 with ⟨rfl, rfl⟩ | ⟨g, cap, cur, rfl, hb, hg, hcap, hmax, hcs, ht⟩
  · refine ⟨none, 0, rfl, Nat.le_refl _, by decide, hl, fun i x hx => ?_⟩
    have : X = [] := List.length_eq_zero_iff.1 hl
    subst this
    simp at hx
  · refine ⟨some ⟨g, 0, none⟩, cap, rfl, hcap, hmax, hl, fun i x hx => ⟨g, 0, rfl, (Array.getElem?_eq_some_iff.1 hg).1, fun j u hu => ?_⟩⟩
    have := hF.cells (g := g) rfl (i * k + j) u (Z37 hk X i x j u hx hu)
    have hadd : (⟨g, 0, none⟩ : Addr).add (i * k + j) = ⟨g, i * k + j, none⟩ := by unfold Addr.add; split <;> simp_all
    rw [hadd] at this
    rw [Nat.zero_add]
    exact this
end Go.Proofs.YtgdlnfljfiageaaDoor

/- 'x.f = append(x.f, e)' in a region that draws its order. No function of the program in sight. -/
namespace Go.Proofs.YtgdlnfljfiageaaDoor
set_option linter.unusedVariables false
set_option linter.unusedSimpArgs false
open Go.RowKit

structure ElemI (P : Program) (t T : TypeId) (k bytes : Nat) : Prop where
  ht : P.underlying t = some (.slice T)
  info : ∃ i z, P.info? T = some i ∧ i.zero = some z ∧ i.size = k ∧ i.bytes = bytes ∧ z.cells.size = k
def AppI (H : Nat) (A : World) (T : TypeId) (k : Nat) (v : Value) (n : Nat) (xs : List Value) (g : Nat) (news : List Value) (G : List Thing) (b c : Bool) (w : World) : Prop :=
  if c = true then b = true ∧ ∃ v', OwnT H A (tRow T k v' (n + 1) (xs ++ news) :: tBlk g T news.toArray :: G) w
  else if b = true then OwnT H A (tRow T k v n xs :: tBlk g T news.toArray :: G) w
  else OwnT H A (tRow T k v n xs :: G) w ∧ w.heap.size = g
section
variable {P : Program} {H : Nat} {A : World} {T t : TypeId} {k n g bytes : Nat} {v : Value} {xs news : List Value} {G : List Thing} {b c : Bool} {w : World} {l : Nat → Bool} {ib ia : Nat} {M : Sem Next}
theorem AppI.start (h : OwnT H A (tRow T k v n xs :: G) w) : AppI H A T k v n xs w.heap.size news G false false w.drew := ⟨h.drew, rfl⟩
theorem AppI.own (h : AppI H A T k v n xs g news G b c w) : OwnT H A G w := by
  unfold AppI at h
  split at h
  · obtain ⟨_, v, h⟩ := h
    exact h.tail.tail
  · split at h
    · exact h.tail.tail
    · exact h.1.tail
end
/-- A row that isn't empty: its slice. -/
theorem OwnT.slice0 {H : Nat} {A w : World} {L : List Thing} {T : TypeId} {k n : Nat} {v : Value} {xs : List Value} (h : OwnT H A (tRow T k v n xs :: L) w) (hn : 0 < n) : ∃ g cap, v = .slice (some ⟨g, 0, none⟩) n cap := by
  obtain ⟨g, cap, cur, h1, _⟩ := Z79 h.r0 hn
  exact ⟨g, cap, h1⟩
theorem Z5y {w : World} {base : Nat} {T : TypeId} {k n : Nat} {v : Value} {xs : List Value} (h : w.ownsRow base T k v n xs) : ∃ B cap, v = .slice B n cap := by
  rcases h.2 with ⟨rfl, rfl⟩ | ⟨g, cap, cur, rfl, _⟩
  · exact ⟨none, 0, rfl⟩
  · exact ⟨_, cap, rfl⟩
theorem OwnT.pick01 {H : Nat} {A w : World} {L : List Thing} {X Y : Thing} (h : OwnT H A (X :: Y :: L) w) : OwnT H A (X :: L) w := h.sub (.cons_cons _ (.cons _ (.refl _)))
end Go.Proofs.YtgdlnfljfiageaaDoor

/- A region that draws its order and whose last operations, in order, write. No function of the program in sight. -/
namespace Go.Proofs.YtgdlnfljfiageaaDoor
set_option linter.unusedVariables false
set_option linter.unusedSimpArgs false
open Go.RowKit

abbrev RE : (Nat → Bool) → World → World → Prop := fun _ => Ext
section
variable {P : Program} {Q : Exit → Act → World → Prop} {a a0 : Act} {w w' w0 : World} {n : Nat} {D D' : List Tmp} {o : Oper} {v : Value} {K : Act → World → Prop}
theorem wp_tail {id : Nat} {l : List Oper} (A : List (List Nat)) (D : List Tmp) (hf : P.follows .mixedOrders = true)
    (h : BuildL P RE l.toArray (fun _ w => Ext w0 w) a0 D A (FinL P l (fun _ w => Ext w0 w) a0 D A Q) 0 l []) : (Code.region id l.toArray true).wp P Q a0 w0 :=
  Z4y RE _ A D (fun _ w => Ext.refl w) (Ext.drew w0) hf h
theorem Z4d (d : Tmp) (D' : List Tmp) (hE : Env a0 D a) (k : Fr n a0) (hd : o.dst = some d) (hn : Nat.blt d n = true) (hs : D.all (fun d => D'.contains d) = true) (hD : D'.contains d = true)
    (h : (execOp a.eval o).run P w = .ok (.value v) w')
    (hk : ∀ a', Env a0 D' a' → a'.eval (.tmp d) = v → (∀ t, Nat.beq t d = false → a'.eval (.tmp t) = a.eval (.tmp t)) → K a' w') : o.wp P a w K Q := by
  refine Z1b h ?_
  rw [hd]
  exact hk _ ((hE.mono hs).put hD v) (Z0g (by rw [hE.size, k.size]; exact Nat.le_of_ble_eq_true hn)) (fun t ht => Z0r ht v)
/-! A region that draws, with one call in the midst that writes; what stands behind it moves its answer's parts. -/
def IM (ic : Nat) (anc : List Nat) (w0 : World) : (Nat → Bool) → World → Prop := fun l w => (l ic = false → Ext w0 w) ∧ (l ic = true → ∀ i ∈ anc, l i = true)
section
variable {R : (Nat → Bool) → World → World → Prop} {ops : Array Oper} {I : (Nat → Bool) → World → Prop} {A : List (List Nat)} {G : List (Nat × TFactL R) → Prop} {k ic : Nat} {os : List Oper} {done : List (Nat × TFactL R)} {anc : List Nat} {l : Nat → Bool}
theorem IM.upd (h : IM ic anc w0 l w) (hk : Nat.beq k ic = false) : IM ic anc w0 (upd l k) w := by
  have hne : ¬ ic = k := fun e => Nat.ne_of_beq_eq_false hk e.symm
  refine ⟨fun hf => h.1 (by simpa [Go.Proofs.YtgdlnfljfiageaaDoor.upd, hne] using hf), fun ht i hi => ?_⟩
  have := h.2 (by simpa [Go.Proofs.YtgdlnfljfiageaaDoor.upd, hne] using ht) i hi
  unfold Go.Proofs.YtgdlnfljfiageaaDoor.upd
  split
  · rfl
  · exact this
theorem IM.grow (h : IM ic anc w0 l w) (hk : Nat.beq k ic = false) (he : Ext w w') : IM ic anc w0 (Go.Proofs.YtgdlnfljfiageaaDoor.upd l k) w' := by
  have h2 := h.upd hk
  exact ⟨fun hf => (h2.1 hf).trans he, h2.2⟩
theorem IM.at_ (hA : ∀ i ∈ anc, l i = true) : IM ic anc w0 (Go.Proofs.YtgdlnfljfiageaaDoor.upd l ic) w :=
  ⟨fun h => by simp [Go.Proofs.YtgdlnfljfiageaaDoor.upd] at h, fun _ i hi => by unfold Go.Proofs.YtgdlnfljfiageaaDoor.upd; split; rfl; exact hA i hi⟩
end
end
end Go.Proofs.YtgdlnfljfiageaaDoor

/- Runes of rows of bytes, their widths, plain. -/
namespace Go.Proofs.YtgdlnfljfiageaaDoor
set_option linter.unusedVariables false
set_option linter.unusedSimpArgs false
/-- The first rune, and how many bytes it has. -/
def dec (l : List UInt8) : Nat × Nat := Lib.decodeN l.length (l.getD 0 0).toNat (l.getD 1 0).toNat (l.getD 2 0).toNat (l.getD 3 0).toNat
theorem get_sB (l : List UInt8) (i : Nat) : (sB l).get! i = l.getD i 0 := by
  show l.toArray[i]! = _
  by_cases h : i < l.length
  · rw [getElem!_pos l.toArray i (by simpa using h)]
    simp [List.getD, List.getElem?_eq_getElem h]
  · rw [getElem!_neg l.toArray i (by simpa using h)]
    rw [List.getD, List.getElem?_eq_none (by omega)]
    rfl
theorem Z86 (l : List UInt8) (i : Nat) : Utf8.decode (sB l) i = dec (l.drop i) := by
  rw [Lib.decode_at]
  unfold dec
  simp only [get_sB, Z0m, List.length_drop, List.getD, List.getElem?_drop, Nat.add_zero]
theorem Z1n {l : List UInt8} (h : l ≠ []) : 1 ≤ (dec l).2 ∧ (dec l).2 ≤ l.length ∧ (dec l).2 ≤ 4 := by
  have := List.length_pos_iff.2 h
  unfold dec Lib.decodeN
  repeat' split
  all_goals (simp only; omega)
theorem Z7r (l : List UInt8) : (dec l).1 < 55296 ∨ (57344 ≤ (dec l).1 ∧ (dec l).1 ≤ 1114111) := by
  have h0 := (l.getD 0 0).toNat_lt
  unfold dec Lib.decodeN
  repeat' split
  all_goals (simp only; omega)
/-- All of them. -/
def runesF : Nat → List UInt8 → List (Nat × Nat)
  | 0, _ => []
  | f + 1, l => if l = [] then [] else dec l :: runesF f (l.drop (dec l).2)
def runesL (l : List UInt8) : List (Nat × Nat) := runesF l.length l
theorem Z2a : ∀ (f g : Nat) (l : List UInt8), l.length ≤ f → l.length ≤ g → runesF f l = runesF g l
  | 0, 0, _, _, _ => rfl
  | 0, g + 1, l, h, _ => by
    obtain rfl : l = [] := List.eq_nil_of_length_eq_zero (by omega)
    rfl
  | f + 1, 0, l, _, h => by
    obtain rfl : l = [] := List.eq_nil_of_length_eq_zero (by omega)
    rfl
  | f + 1, g + 1, l, h1, h2 => by
    show (if l = [] then [] else _) = (if l = [] then [] else _)
    split
    · rfl
    · rename_i hne
      have := Z1n hne
      rw [Z2a f g (l.drop (dec l).2) (by rw [List.length_drop]; omega) (by rw [List.length_drop]; omega)]
theorem Z5w : runesL [] = [] := rfl
theorem Z19 {l : List UInt8} (h : l ≠ []) : runesL l = dec l :: runesL (l.drop (dec l).2) := by
  obtain ⟨x, r, rfl⟩ := List.exists_cons_of_ne_nil h
  have := Z1n h
  unfold runesL
  show (if x :: r = [] then [] else _) = _
  rw [if_neg h, Z2a r.length ((x :: r).drop (dec (x :: r)).2).length _ (by rw [List.length_drop]; simp only [List.length_cons]; omega) (Nat.le_refl _)]
/-- How wide. -/
def wideN (r : Nat) : Nat := if (768 ≤ r ∧ r ≤ 879) ∨ r = 8203 then 0 else if (4352 ≤ r ∧ r ≤ 4447) ∨ (11904 ≤ r ∧ r ≤ 40959) ∨ (44032 ≤ r ∧ r ≤ 55203) ∨ (65280 ≤ r ∧ r ≤ 65376) then 2 else 1
theorem Z5f (r : Nat) : wideN r ≤ 2 := by unfold wideN; split <;> (try split) <;> omega
def widthR (R : List (Nat × Nat)) : Nat := (R.map fun x => wideN x.1).sum
def widthL (l : List UInt8) : Nat := widthR (runesL l)
theorem Z2k {l : List UInt8} (h : l ≠ []) : widthL l = wideN (dec l).1 + widthL (l.drop (dec l).2) := by
  unfold widthL
  rw [Z19 h]
  rfl
theorem Z23 : ∀ (n : Nat) (l : List UInt8), l.length ≤ n → widthL l ≤ 2 * l.length
  | 0, l, h => by
    obtain rfl : l = [] := List.eq_nil_of_length_eq_zero (by omega)
    exact Nat.le_refl _
  | n + 1, l, h => by
    by_cases e : l = []
    · subst e; exact Nat.le_refl _
    · have h1 := Z1n e
      have h2 := Z23 n (l.drop (dec l).2) (by rw [List.length_drop]; omega)
      have h3 := Z5f (dec l).1
      rw [List.length_drop] at h2
      rw [Z2k e]
      omega
/-- Where a text is cut, and how wide what is ahead. -/
def cutR (w : Nat) : List (Nat × Nat) → Nat → Nat × Nat
  | [], n => (0, n)
  | x :: r, n => if w < n + wideN x.1 then (0, n) else ((cutR w r (n + wideN x.1)).1 + x.2, (cutR w r (n + wideN x.1)).2)
def fitL (w : Nat) (l : List UInt8) : List UInt8 := l.take (cutR w (runesL l) 0).1 ++ List.replicate (w - (cutR w (runesL l) 0).2) 32
end Go.Proofs.YtgdlnfljfiageaaDoor

/- Rows of strings, rows of rows of strings; ranges over strings. No function of the program in sight. -/
namespace Go.Proofs.YtgdlnfljfiageaaDoor
set_option linter.unusedVariables false
set_option linter.unusedSimpArgs false
open Go.RowKit
abbrev Tx := List UInt8
def txE (s : Tx) : Value := .string (sB s)
def txV (T : List Tx) : List Value := T.map txE
theorem Z5k (S T : List Tx) : txV (S ++ T) = txV S ++ txV T := by simp [txV]
theorem txV_len (T : List Tx) : (txV T).length = T.length := by simp [txV]
/-- Rows of strings as they are read; rows of such rows. -/
abbrev TxR (w : World) (A : Option Addr) (T : List Tx) : Prop := Row1 w A txE T
def TxsR (w : World) (A : Option Addr) (X : List (List Tx)) : Prop :=
  ∀ i T, X[i]? = some T → ∃ b o Ai ci, A = some ⟨b, o, none⟩ ∧ b < w.heap.size ∧ w.cell? ⟨b, o + i, none⟩ = some (.slice Ai T.length ci) ∧ TxR w Ai T
theorem TxsR.below {w w' : World} {A : Option Addr} {X : List (List Tx)} (h : TxsR w A X) (hb : Below w.heap.size w w') : TxsR w' A X := by
  intro i T hT
  obtain ⟨b, o, Ai, ci, e, hlt, hc, hr⟩ := h i T hT
  exact ⟨b, o, Ai, ci, e, Nat.lt_of_lt_of_le hlt hb.size, (hb.cell (p := ⟨b, _, none⟩) hlt).trans hc, hr.below hb⟩
theorem TxR.at_ {w w' : World} {A : Option Addr} {T : List Tx} (h : TxR w A T) (hb : Below w.heap.size w w') {i : Nat} {s : Tx} (hs : T[i]? = some s) : ∃ b o, A = some ⟨b, o, none⟩ ∧ w'.cell? ⟨b, o + i, none⟩ = some (.string (sB s)) := by
  obtain ⟨b, o, e, hlt, hc⟩ := h i s hs
  exact ⟨b, o, e, (hb.cell (p := ⟨b, _, none⟩) hlt).trans hc⟩
/-- Where a row's cells lie, once for all worlds behind. -/
theorem TxR.spot {w : World} {A : Option Addr} {T : List Tx} (h : TxR w A T) {i : Nat} {s : Tx} (hs : T[i]? = some s) : ∃ b o, A = some ⟨b, o, none⟩ ∧ ∀ w', Below w.heap.size w w' → ∀ j s, T[j]? = some s → w'.cell? ⟨b, o + j, none⟩ = some (.string (sB s)) := by
  obtain ⟨b, o, e, _, _⟩ := h i s hs
  refine ⟨b, o, e, fun w' hb j s hs => ?_⟩
  obtain ⟨b', o', e', hc⟩ := h.at_ hb hs
  rw [e] at e'
  injection e' with e'
  injection e' with e1 e2
  subst e1 e2
  exact hc
theorem TxsR.spot {w : World} {A : Option Addr} {X : List (List Tx)} (h : TxsR w A X) {i : Nat} {T : List Tx} (hT : X[i]? = some T) : ∃ b o, A = some ⟨b, o, none⟩ ∧ ∀ j T, X[j]? = some T → ∃ Aj cj, TxR w Aj T ∧ ∀ w', Below w.heap.size w w' → w'.cell? ⟨b, o + j, none⟩ = some (.slice Aj T.length cj) := by
  obtain ⟨b, o, _, _, e, _⟩ := h i T hT
  refine ⟨b, o, e, fun j T hT => ?_⟩
  obtain ⟨b', o', Aj, cj, e', hlt, hc, hr⟩ := h j T hT
  rw [e] at e'
  injection e' with e'
  injection e' with e1 e2
  subst e1 e2
  exact ⟨Aj, cj, hr, fun w' hb => (hb.cell (p := ⟨b, _, none⟩) hlt).trans hc⟩
/-! Of one's own. -/
abbrev tTx (v : Value) (T : List Tx) : Thing := tRow 9 1 v T.length (txV T)
def tTxs (vs : List Value) (X : List (List Tx)) : Thing where
  foot := vs.flatMap fun v => v.ownBlock.toList
  holds := fun w => vs.length = X.length ∧ ∀ i v T, vs[i]? = some v → X[i]? = some T → (tTx v T).holds w
  keep := fun w w' hs h ⟨h1, h2⟩ => ⟨h1, fun i v T hv hn => (tTx v T).keep w w' hs (fun j hj => h j (List.mem_flatMap.2 ⟨v, List.mem_of_getElem? hv, hj⟩)) (h2 i v T hv hn)⟩
  lt := fun w ⟨h1, h2⟩ i hi => by
    obtain ⟨v, hv, hj⟩ := List.mem_flatMap.1 hi
    obtain ⟨k, hk⟩ := List.getElem?_of_mem hv
    have hkl := (List.getElem?_eq_some_iff.1 hk).1
    exact (tTx v (X[k]'(by omega))).lt w (h2 k v _ hk (List.getElem?_eq_getElem (by omega))) i hj
section
variable {H : Nat} {A w w' : World} {R : List Thing} {X Y Z : Thing}
/-- Two things in one. -/
theorem OwnT.mergeX (h : OwnT H A (X :: Y :: R) w) (hz : Z.holds w) (hf : ∀ i ∈ Z.foot, i ∈ X.foot ∨ i ∈ Y.foot) : OwnT H A (Z :: R) w := by
  have hd := List.pairwise_cons.1 h.diff
  have hd2 := List.pairwise_cons.1 hd.2
  refine ⟨h.below, h.size, ⟨hz, h.all.2.2⟩, fun x hx i hi => ?_, List.Pairwise.cons (fun y hy i hi hj => ?_) hd2.2⟩
  · rcases List.mem_cons.1 hx with rfl | hx
    · rcases hf i hi with h1 | h1
      · exact h.high X (by simp) i h1
      · exact h.high Y (by simp) i h1
    · exact h.high x (by simp [hx]) i hi
  · rcases hf i hi with h1 | h1
    · exact hd.1 y (by simp [hy]) i h1 hj
    · exact hd2.1 y hy i h1 hj
theorem OwnT.txsAdd {vs : List Value} {N : List (List Tx)} {v : Value} {T : List Tx} (h : OwnT H A (tTx v T :: tTxs vs N :: R) w) : OwnT H A (tTxs (vs ++ [v]) (N ++ [T]) :: R) w := by
  obtain ⟨h1, h2, _⟩ := h.all
  refine h.mergeX ⟨by rw [List.length_append, List.length_append, h2.1]; rfl, fun i u nd hu hn => ?_⟩ (fun i hi => ?_)
  · by_cases hi : i < N.length
    · rw [List.getElem?_append_left (by rw [h2.1]; exact hi)] at hu
      rw [List.getElem?_append_left hi] at hn
      exact h2.2 i u nd hu hn
    · rw [List.getElem?_append_right (by rw [h2.1]; omega)] at hu
      rw [List.getElem?_append_right (by omega)] at hn
      have e1 : i - N.length = 0 := by
        have := (List.getElem?_eq_some_iff.1 hn).1
        simpa using this
      rw [e1] at hn
      rw [h2.1, e1] at hu
      obtain rfl : v = u := by simpa using hu
      obtain rfl : T = nd := by simpa using hn
      exact h1
  · show i ∈ (tTx v T).foot ∨ _
    have hi : i ∈ (vs ++ [v]).flatMap fun v => v.ownBlock.toList := hi
    rw [List.flatMap_append] at hi
    rcases List.mem_append.1 hi with hi | hi
    · exact .inr hi
    · exact .inl (by simpa [tRow] using hi)
theorem OwnT.txsNil (h : OwnT H A R w) : OwnT H A (tTxs [] [] :: R) w :=
  h.cons (Ext.refl w) _ ⟨rfl, fun i v T hv => by simp at hv⟩ (fun i hi => by cases hi)
theorem rowE_g {E : Type} {enc : E → List Value} {k : Nat} (hk : ∀ x, (enc x).length = k) (hk0 : 0 < k) {w : World} {base n cap : Nat} {T : TypeId} {B : Option Addr} {X : List E} (h : w.ownsRow base T k (.slice B n cap) n (X.flatMap enc)) : Row w B k enc X := by
  obtain ⟨B', cap', e, _, _, _, hR⟩ := Z3z hk hk0 h
  cases e
  exact hR
theorem flat1 {E : Type} (f : E → Value) (X : List E) : X.map f = X.flatMap fun x => [f x] := by
  induction X with
  | nil => rfl
  | cons x r ih => rw [List.map_cons, List.flatMap_cons, ih]; rfl
/-- A row of one's own of cells: as it is read. -/
theorem Z1u {E : Type} (f : E → Value) {base n cap : Nat} {T : TypeId} {B : Option Addr} {X : List E} (h : w.ownsRow base T 1 (.slice B n cap) n (X.map f)) : Row1 w B f X := by
  rw [flat1] at h
  intro i x hx
  obtain ⟨b, o, e, hlt, hc⟩ := rowE_g (enc := fun x => [f x]) (fun _ => rfl) (by decide) h i x hx
  refine ⟨b, o, e, hlt, ?_⟩
  have := hc 0 _ rfl
  rwa [Nat.mul_one, Nat.add_zero] at this
theorem txs_of {base n cap : Nat} {B : Option Addr} {vs : List Value} {X : List (List Tx)} {T0 : TypeId} (h : w.ownsRow base T0 1 (.slice B n cap) n vs) (hp : (tTxs vs X).holds w) : TxsR w B X := by
  intro i T hT
  have hil := (List.getElem?_eq_some_iff.1 hT).1
  obtain ⟨v, hv⟩ : ∃ v, vs[i]? = some v := ⟨_, List.getElem?_eq_getElem (by rw [hp.1]; exact hil)⟩
  have h1 := hp.2 i v T hv hT
  rw [show vs = vs.map id by simp] at h
  obtain ⟨b, o, e, hlt, hc⟩ := Z1u id h i v hv
  obtain ⟨Ai, ci, rfl⟩ := Z5y (show w.ownsRow 0 _ 1 v T.length (txV T) from h1)
  exact ⟨b, o, Ai, ci, e, hlt, hc, Z1u txE h1⟩
end
theorem Z38 {P : Program} {H : Nat} {A w : World} {T t : TypeId} {k n g bytes : Nat} {v : Value} {xs news : List Value} {G : List Thing} (O : OwnT H A (tBlk g T news.toArray :: tRow T k v n xs :: G) w) (E : ElemI P t T k bytes) (hk : 0 < k) (hlen : news.length = k) (h1 : ∀ u ∈ news, u.oneCell' = true) (h63 : n + 1 ≤ maxLen) (hbytes : (n + 1) * bytes ≤ 140737488355328) :
    ∃ gr cap w', (∀ ty, (Builtin.append_ #[t, t] ty #[v, .slice (some ⟨g, 0, none⟩) 1 1]).run P w = .ok (.slice (some ⟨gr, 0, none⟩) (n + 1) cap) w') ∧ OwnT H A (tRow T k (.slice (some ⟨gr, 0, none⟩) (n + 1) cap) (n + 1) (xs ++ news) :: G) w' := by
  obtain ⟨i, z, hi, hz, hs, hby, hzs⟩ := E.info
  obtain ⟨r, w', hrun, h3⟩ := (O.perm (.swap _ _ _)).appendOne (P := P) t i z bytes E.ht hi hz hs hby hzs hk g T news O.b0 hlen h1 h63 hbytes
  obtain ⟨gr, cap, rfl⟩ := OwnT.slice0 h3 (by omega)
  exact ⟨gr, cap, w', hrun, h3.pick01⟩
theorem elemTx : ElemI Tryd.prog 36 9 1 16 := ⟨Tryd.underlying36, by
  have h : (Tryd.prog.info? 9).map (fun i => (i.zero, i.size, i.bytes)) = some (some (.string (sB [])), 1, 16) := by kernel_rfl
  obtain ⟨i, h1, h2, h3, h4⟩ := info_parts h
  exact ⟨i, _, h1, h2, h3, h4, rfl⟩⟩
theorem elemTxs : ElemI Tryd.prog 22 36 1 24 := ⟨Tryd.underlying22, by
  have h : (Tryd.prog.info? 36).map (fun i => (i.zero, i.size, i.bytes)) = some (some (.slice none 0 0), 1, 24) := by kernel_rfl
  obtain ⟨i, h1, h2, h3, h4⟩ := info_parts h
  exact ⟨i, _, h1, h2, h3, h4, rfl⟩⟩
/-! Arguments. -/
theorem Z4t : Tryd.prog.cellsOf 9 = 1 := by kernel_rfl
theorem Z6l : Tryd.prog.cellsOf 36 = 1 := by kernel_rfl
theorem fit_txs {w : World} {v : Value} (h : Fit Tryd.prog w 36 [v]) : ∃ A ci, ∃ T : List Tx, v = .slice A T.length ci ∧ TxR w A T := by
  obtain ⟨A, len, cap, xs, rfl, h1, h2, h3, _, h5⟩ := Z4s Value.string (fun s => s.size ≤ maxLen) Tryd.underlying36 Z4t (fun _ hf => Z56 Tryd.underlying9 hf) h
  refine ⟨A, cap, xs.map fun s => s.data.toList, by rw [List.length_map, h3], fun i x hx => ?_⟩
  rw [List.getElem?_map] at hx
  obtain ⟨y, hy, rfl⟩ := Option.map_eq_some_iff.1 hx
  obtain ⟨b, off, hA, hb, hc⟩ := h5 i y hy
  refine ⟨b, off, hA, hb, ?_⟩
  rw [hc]
  show _ = some (Value.string (sB y.data.toList))
  rw [Z78]
theorem Z6q {w : World} {v : Value} (h : Arg Tryd.prog w 22 v) : ∃ A cap, ∃ X : List (List Tx), v = .slice A X.length cap ∧ X.length ≤ maxLen ∧ TxsR w A X := by
  obtain ⟨A, len, cap, xs, rfl, h1, h2, h3, h4, h5⟩ := Z4s (E := Value × List Tx) (fun x => x.1) (fun x => ∃ Ai ci, x.1 = .slice Ai x.2.length ci ∧ TxR w Ai x.2) Tryd.underlying22 Z6l (fun cs hf => by
    obtain ⟨v, rfl⟩ : ∃ v, cs = [v] := by
      obtain ⟨A, len, cap, e, _⟩ := Z3s Tryd.underlying36 Z4t hf
      exact ⟨_, e⟩
    obtain ⟨Ai, ci, T, e, hT⟩ := fit_txs hf
    exact ⟨(v, T), rfl, Ai, ci, e, hT⟩) (Z6r Tryd.underlying22 h)
  refine ⟨A, cap, xs.map fun x => x.2, by rw [List.length_map, h3], by rw [List.length_map]; omega, fun i T hT => ?_⟩
  rw [List.getElem?_map] at hT
  obtain ⟨x, hx, rfl⟩ := Option.map_eq_some_iff.1 hT
  obtain ⟨b, o, e, hlt, hc⟩ := h5 i x hx
  obtain ⟨Ai, ci, e2, hr⟩ := h4 x (List.mem_of_getElem? hx)
  exact ⟨b, o, Ai, ci, e, hlt, hc.trans (congrArg some e2), hr⟩
/-! A range over a string. -/
section
variable {H : Nat} {A w : World} {R : List Thing} {o : Oper} {ρ : Operand → Value} {x : Operand}
theorem Z88 {t : TypeId} {l : Tx} (hu : Tryd.prog.underlying t = some .string) (ho : o.op = .range t x) (hx : ρ x = .string (sB l)) : (execOp ρ o).run Tryd.prog w = .ok (.value (.pointer (some ⟨w.heap.size, 0, none⟩))) (w.iter (sB l) 0) := by
  unfold execOp
  simp only [ho, hx]
  simp [run_range_string w t (sB l) hu]
theorem x_next {ty : TypeId} {k pos : Nat} {l : Tx} (ho : o.op = .next x true) (hx : ρ x = .pointer (some ⟨k, 0, none⟩)) (hk : w.heap[k]? = some (.stringIter (sB l) pos)) (hp : pos < l.length) : (execOp ρ o).run Tryd.prog w = .ok (.value (.tuple #[.bool true, .int .i64 pos, .int .i32 (dec (l.drop pos)).1])) (w.putObj k (.stringIter (sB l) (pos + (dec (l.drop pos)).2))) := by
  have h := Go.Lib.run_next_any_at (P := Tryd.prog) w k (sB l) pos o.type hk (by rw [Z0m]; exact hp)
  rw [Z86] at h
  unfold execOp
  simp only [ho, hx]
  simp [h]
  rfl
theorem Z2j {k pos : Nat} {l : Tx} (ho : o.op = .next x true) (hx : ρ x = .pointer (some ⟨k, 0, none⟩)) (hk : w.heap[k]? = some (.stringIter (sB l) pos)) (hp : ¬ pos < l.length) : (execOp ρ o).run Tryd.prog w = .ok (.value (.tuple #[.bool false])) w := by
  have h := Go.Lib.run_next_end_at (P := Tryd.prog) w k (sB l) pos o.type hk (by rw [Z0m]; exact hp)
  unfold execOp
  simp only [ho, hx]
  simp [h]
end
end Go.Proofs.YtgdlnfljfiageaaDoor
