/- Texts of rows, plain. -/
import Derived.Test.YtgdlnfljfiageaaDoorKGridBack11
import Derived.Lib.Join
import Derived.Test.YtgdlnfljfiageaaDoorKGridBack00
import Derived.Test.YtgdlnfljfiageaaDoorKGridBack12
namespace Go.Proofs.YtgdlnfljfiageaaDoor
set_option linter.unusedVariables false
set_option linter.unusedSimpArgs false
abbrev bar : List UInt8 := [226, 148, 130]
/-- How wide a column is. -/
def colW (X : List (List (List UInt8))) (k : Nat) : Nat := (X.map fun T => widthL (T.getD k [])).foldl max 0
theorem Z3v (X : List (List (List UInt8))) (T : List (List UInt8)) (k : Nat) : colW (X ++ [T]) k = max (colW X k) (widthL (T.getD k [])) := by
  unfold colW
  rw [List.map_append, List.foldl_append]
  rfl
theorem Z6e : ∀ (l : List Nat) (a : Nat), a ≤ l.foldl max a ∧ ∀ x ∈ l, x ≤ l.foldl max a
  | [], a => ⟨Nat.le_refl _, fun x h => by cases h⟩
  | y :: r, a => by
    obtain ⟨h1, h2⟩ := Z6e r (max a y)
    rw [List.foldl_cons]
    refine ⟨by omega, fun x hx => ?_⟩
    rcases List.mem_cons.1 hx with rfl | hx
    · omega
    · exact h2 x hx
theorem Z6d {b : Nat} : ∀ (l : List Nat) (a : Nat), a ≤ b → (∀ x ∈ l, x ≤ b) → l.foldl max a ≤ b
  | [], a, h, _ => h
  | y :: r, a, h, h2 => by
    rw [List.foldl_cons]
    exact Z6d r _ (by have := h2 y (by simp); omega) (fun x hx => h2 x (by simp [hx]))
theorem colW_ge {X : List (List (List UInt8))} {T : List (List UInt8)} (h : T ∈ X) (k : Nat) : widthL (T.getD k []) ≤ colW X k :=
  (Z6e _ 0).2 _ (List.mem_map.2 ⟨T, h, rfl⟩)
theorem Z6k {X : List (List (List UInt8))} {b : Nat} (k : Nat) (h : ∀ T ∈ X, widthL (T.getD k []) ≤ b) : colW X k ≤ b :=
  Z6d _ 0 (Nat.zero_le _) (fun x hx => by
    obtain ⟨T, hT, rfl⟩ := List.mem_map.1 hx
    exact h T hT)
/-- A cell filled; a row's cells filled; a line. -/
def padL (m : Nat) (s : List UInt8) : List UInt8 := s ++ List.replicate (m - widthL s) 32
def padsL (W : Nat → Nat) : Nat → List (List UInt8) → List (List UInt8)
  | _, [] => []
  | i, s :: r => padL (W i) s :: padsL W (i + 1) r
theorem Z1v (W : Nat → Nat) : ∀ (T : List (List UInt8)) (i : Nat) (s : List UInt8), padsL W i (T ++ [s]) = padsL W i T ++ [padL (W (i + T.length)) s]
  | [], i, s => rfl
  | x :: T, i, s => by
    show padL (W i) x :: padsL W (i + 1) (T ++ [s]) = padL (W i) x :: padsL W (i + 1) T ++ _
    rw [Z1v W T (i + 1) s, List.length_cons, show i + 1 + T.length = i + (T.length + 1) by omega]
    rfl
theorem Z1q (W : Nat → Nat) : ∀ (T : List (List UInt8)) (i : Nat), (padsL W i T).length = T.length
  | [], _ => rfl
  | x :: T, i => by
    show (padsL W (i + 1) T).length + 1 = _
    rw [Z1q W T (i + 1)]
    rfl
def lineL (W : Nat → Nat) (T : List (List UInt8)) : List UInt8 := Lib.trimRightB (Lib.join (padsL W 0 T) bar) 32 ++ [10]
/-- A text. -/
def textL (X : List (List (List UInt8))) : List UInt8 := (X.map (lineL (colW X))).flatten
theorem Z7d {m : Nat} {s : List UInt8} {b : Nat} (h1 : s.length ≤ b) (h2 : m ≤ b) : (padL m s).length ≤ 2 * b := by
  unfold padL
  rw [List.length_append, List.length_replicate]
  omega
theorem Z31 {W : Nat → Nat} {b : Nat} (hW : ∀ k, W k ≤ b) : ∀ (T : List (List UInt8)) (i : Nat), (∀ s ∈ T, s.length ≤ b) → ∀ x ∈ padsL W i T, x.length ≤ 2 * b
  | [], _, _, x, h => by cases h
  | s :: T, i, hs, x, h => by
    rcases List.mem_cons.1 (show x ∈ padL (W i) s :: padsL W (i + 1) T from h) with rfl | h
    · exact Z7d (hs s (by simp)) (hW i)
    · exact Z31 hW T (i + 1) (fun s hs' => hs s (by simp [hs'])) x h
theorem Z4e (sep : List UInt8) {b : Nat} : ∀ (r : List (List UInt8)), (∀ x ∈ r, x.length ≤ b) → (Lib.joinTail sep r).length ≤ r.length * (b + sep.length)
  | [], _ => by simp [Lib.joinTail]
  | x :: r, h => by
    have h1 := h x (by simp)
    have h2 := Z4e sep r (fun y hy => h y (by simp [hy]))
    unfold Lib.joinTail at h2 ⊢
    rw [List.map_cons, List.flatten_cons, List.length_append, List.length_append, List.length_cons, Nat.succ_mul]
    omega
theorem Z4n (sep : List UInt8) {b : Nat} (xs : List (List UInt8)) (h : ∀ x ∈ xs, x.length ≤ b) : (Lib.join xs sep).length ≤ xs.length * (b + sep.length) := by
  cases xs with
  | nil => simp [Lib.join]
  | cons x r =>
    rw [Lib.join_cons, List.length_append, List.length_cons, Nat.succ_mul]
    have h1 := h x (by simp)
    have h2 := Z4e sep r (fun y hy => h y (by simp [hy]))
    omega
theorem Z3d (l : List UInt8) (c : UInt8) : (Lib.trimRightB l c).length ≤ l.length := by
  unfold Lib.trimRightB
  rw [List.length_reverse]
  have := Z1h (p := (· == c)) l.reverse
  rwa [List.length_reverse] at this
theorem Z3o {W : Nat → Nat} {T : List (List UInt8)} {b : Nat} (hW : ∀ k, W k ≤ b) (hs : ∀ s ∈ T, s.length ≤ b) : (lineL W T).length ≤ T.length * (2 * b + 3) + 1 := by
  unfold lineL
  rw [List.length_append]
  have h1 := Z3d (Lib.join (padsL W 0 T) bar) 32
  have h2 := Z4n bar (padsL W 0 T) (Z31 hW T 0 hs)
  rw [Z1q] at h2
  have : bar.length = 3 := rfl
  rw [this] at h2
  simp only [List.length_cons, List.length_nil]
  omega
end Go.Proofs.YtgdlnfljfiageaaDoor

/- Builders as things; rows of ints of one's own; a join. -/
namespace Go.Proofs.YtgdlnfljfiageaaDoor
set_option linter.unusedVariables false
set_option linter.unusedSimpArgs false
open Go.RowKit
/-- A builder. -/
def tWr (b : Nat) (g : Option Nat) (l : List UInt8) : Thing where
  foot := b :: g.toList
  holds := fun w => WrS w b g l
  keep := fun w w' _ h hb => hb.keep (h b (by simp)) (fun k hk => h k (by simp [hk]))
  lt := fun w h i hi => by
    rcases List.mem_cons.1 hi with rfl | hi
    · exact h.lt
    · exact h.own_lt i (by simpa using hi)
section
variable {H : Nat} {A w w' : World} {L : List Thing} {b : Nat} {g g' : Option Nat} {l l' : List UInt8}
theorem OwnT.asWr (O : OwnT H A (tBlk b 45 #[.pointer none, .slice none 0 0] :: L) w) : OwnT H A (tWr b none [] :: L) w :=
  O.call (F := []) (Chg.refl [] w) (by simp) (tWr b none []) (.inl ⟨.slice none 0 0, O.b0, ⟨rfl, .inl ⟨rfl, rfl⟩⟩, rfl⟩) (fun i hi => .inl (by simpa [tWr, tBlk] using hi))
theorem OwnT.wrote (O : OwnT H A (tWr b g l :: L) w) (h : WrS w' b g' l') (k : WroteS w b g g' w') : OwnT H A (tWr b g' l' :: L) w' := by
  refine O.call (F := b :: g.toList) ⟨k.os, k.tape, k.output, k.size, fun i hi hn => k.block i hi (fun e => hn (by simp [e])) (fun e => hn (by simp [← e]))⟩ (fun i hi => hi) (tWr b g' l') h (fun i hi => ?_)
  rcases List.mem_cons.1 hi with rfl | hi
  · exact .inl (by simp [tWr])
  · rcases k.own with e | ⟨j, e, hj⟩
    · exact .inl (by rw [e] at hi; exact List.mem_cons_of_mem _ hi)
    · exact .inr (by rw [e] at hi; simp at hi; omega)
theorem Z5b (s : List UInt8) (O : OwnT H A (tWr b g l :: L) w) (hlen : l.length + s.length ≤ 140737488355328) :
    Calls Tryd.prog 18 #[.pointer (some ⟨b, 0, none⟩), .string (sB s)] w fun e w' => ∃ g', e = .returned (.tuple #[.int .i64 (sB s).size, .nilIface]) ∧ OwnT H A (tWr b g' (l ++ s) :: L) w' := by
  refine (Z20 b g l (sB s) w O.all.1 (by rw [Z0m]; exact hlen)).mono ?_
  rintro e w' ⟨rfl, g', h1, h2⟩
  exact ⟨g', rfl, O.wrote (.inr h1) h2⟩
theorem wr_end (O : OwnT H A [tWr b g l] w) : Calls Tryd.prog 20 #[.pointer (some ⟨b, 0, none⟩)] w fun e w' => e = .returned (.string (sB l)) ∧ Below H A w' := by
  have hb : H ≤ b := O.high (tWr b g l) (by simp) b (by simp [tWr])
  have hg : ∀ k, g = some k → H ≤ k := fun k hk => O.high (tWr b g l) (by simp) k (by simp [tWr, hk])
  have hlen : (Lib.byteCells l).length = l.length := by simp [Lib.byteCells]
  have hF : ∀ p, WrPS w b g p l → Lib.BuilderAtF 45 5 H b p (Lib.byteCells l) w := by
    rintro p ⟨v, h1, h2, h3⟩
    refine ⟨hb, v, h1, ?_, Lib.ownBlock_neF h2 h1 (by decide)⟩
    rw [hlen]
    refine ⟨h2.1, ?_⟩
    rcases h2.2 with hn | ⟨g', cap, cur, fz, rfl, _, rest⟩
    · exact .inl hn
    · exact .inr ⟨g', cap, cur, fz, rfl, hg g' h3.symm, rest⟩
  have hA : Lib.IsBuilderF 45 5 H b (Lib.byteCells l) w := (O.all.1 : WrS w b g l).elim (fun h => .inl (hF _ h)) (fun h => .inr (hF _ h))
  refine (Tryd.Builder_String_any_f H b l w hA O.size).mono ?_
  rintro e w' ⟨rfl, _, h2⟩
  exact ⟨rfl, O.below.trans h2⟩
end
/-! Rows of ints of one's own. -/
def wsC (m : Nat) (W : Nat → Nat) : Array Value := ((List.range m).map fun k => Value.int .i64 ((W k : Nat) : Int)).toArray
theorem Z47 {m j : Nat} {W : Nat → Nat} (h : j < m) : (wsC m W)[j]? = some (.int .i64 ((W j : Nat) : Int)) := by simp [wsC, h]
theorem Z46 (m : Nat) (W : Nat → Nat) : (wsC m W).size = m := by simp [wsC]
theorem wsC_set {m j v : Nat} {W : Nat → Nat} (h : j < m) : (wsC m W).setIfInBounds j (.int .i64 ((v : Nat) : Int)) = wsC m (fun k => if k = j then v else W k) := by
  apply Array.ext
  · simp [wsC]
  · intro i h1 h2
    have hi : i < m := by rw [Z46] at h2; exact h2
    rw [Array.getElem_setIfInBounds]
    by_cases e : j = i
    · subst e
      rw [if_pos rfl]
      simp [wsC]
    · rw [if_neg e]
      simp [wsC, Ne.symm e]
    · rw [Z46]; exact hi
theorem info_iG : ∃ i : TypeInfo, Tryd.prog.info? 3 = some i ∧ i.zero = some (.int .i64 0) ∧ i.size = 1 ∧ i.bytes = 8 := by
  have h : (Tryd.prog.info? 3).map (fun i => (i.zero, i.size, i.bytes)) = some (some (.int .i64 0), 1, 8) := by kernel_rfl
  exact info_parts h
theorem Z52 {H : Nat} {A w : World} {L : List Thing} (n : Nat) (O : OwnT H A L w) (hn : n ≤ 10000000) : ∃ g w', (∀ (o : Oper) (ρ : Operand → Value) (x y : Operand), o.op = .makeSlice 33 x y → ρ x = .int .i64 n → ρ y = .int .i64 n → (execOp ρ o).run Tryd.prog w = .ok (.value (.slice (some ⟨g, 0, none⟩) n n)) w') ∧ OwnT H A (tBlk g 3 (wsC n fun _ => 0) :: L) w' := by
  obtain ⟨i, hi, hz, hs, hb⟩ := info_iG
  obtain ⟨w', h1, h2, h3⟩ := run_makeSlice_full (P := Tryd.prog) w w.heap.size 33 3 i (.int .i64 0) 1 Tryd.underlying33 hi hz hs .i64 .i64 n (by omega) (by rw [hb]; omega) (by unfold maxLen; omega) (Nat.le_refl _)
  have hE : Ext w w' := ⟨h3.os, h3.tape, h3.output, h3.size, fun i hi => h3.block i hi (by simp)⟩
  have e : (madeCells (Value.int .i64 0).cells (n * 1)).toList = (wsC n fun _ => 0).toList := by
    have := h2.1
    apply List.ext_getElem?
    intro i
    by_cases hi : i < n
    · simp [madeCells, Value.cells, hi, Nat.mod_one, wsC]
    · rw [List.getElem?_eq_none (by rw [this]; omega), List.getElem?_eq_none (by simp [wsC]; omega)]
  rw [e] at h2
  rcases h2.2 with ⟨e1, _⟩ | ⟨g, cap, cur, e1, hg, hh, h4, h5, h6, h7⟩
  · cases e1
  · injection e1 with e1 e2 e3
    subst e3
    have hcur : cur = wsC n fun _ => 0 := by
      rw [List.take_of_length_le (by rw [Array.length_toList]; omega)] at h7
      exact Array.toList_inj.1 h7
    subst hcur
    refine ⟨g, w', fun o ρ x y ho hx hy => ?_, O.cons hE (tBlk g 3 _) hh (fun i hi => by simp [tBlk] at hi; omega)⟩
    rw [← e1]
    simp [execOp, ho, hx, hy, h1]
/-- A join of a row of one's own. -/
theorem Z7k {base cap n : Nat} {B : Option Addr} {xs : List Tx} (sep : List UInt8) (W : World) (h : W.ownsRow base 9 1 (.slice B n cap) n (txV xs)) (hn : xs.length ≤ 1000000) (hlen : (Lib.join xs sep).length ≤ 100000000) : Calls Tryd.prog 37 #[.slice B n cap, .string (sB sep)] W fun e w' => e = .returned (.string (sB (Lib.join xs sep))) ∧ Ext W w' := by
  have hl : xs.length = n := by have := h.1; rw [txV_len] at this; omega
  have hr := Z1u txE h
  rcases h.2 with ⟨e, h0⟩ | ⟨g, c, cur, e, _, hh, hc, _⟩
  · injection e with e1 e2 e3
    obtain rfl : xs = [] := List.eq_nil_of_length_eq_zero (by omega)
    subst h0 e1
    refine (Tryd.strings_Join_none none cap (sB sep) W).mono ?_
    rintro e w' ⟨rfl, h2⟩
    exact ⟨rfl, by rw [h2]; exact Ext.refl _⟩
  · injection e with e1 e2 e3
    subst e1 e3
    have hJ := Tryd.strings_Join g 0 cap (xs.map sB) (sB sep) W (fun j x hx => by
      rw [List.getElem?_map] at hx
      obtain ⟨s, hs, rfl⟩ := Option.map_eq_some_iff.1 hx
      obtain ⟨b, o, e, _, hcell⟩ := hr j s hs
      injection e with e
      injection e with e1 e2
      subst e1 e2
      exact hcell) ((Array.getElem?_eq_some_iff.1 hh).1) (by rw [List.length_map]; omega) (by rw [List.length_map]; omega)
    have e2 : (xs.map sB).map (fun s => s.data.toList) = xs := by
      rw [List.map_map]
      exact List.map_id _
    rw [e2, Z5v, List.length_map, hl] at hJ
    exact hJ (by omega)
end Go.Proofs.YtgdlnfljfiageaaDoor
