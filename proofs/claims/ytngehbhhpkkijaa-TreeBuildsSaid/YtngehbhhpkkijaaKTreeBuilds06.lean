/- leaf: a key's place; plain. -/
import Derived.Test.YtngehbhhpkkijaaKTreeBuilds05
namespace Go.Proofs.Ytngehbhhpkkijaa
set_option linter.unusedVariables false
set_option linter.unusedSimpArgs false
open Go.RowKit

theorem Z4a (xs : List (Nat × Nat)) (key : Nat) (h : riseB xs = true) : ∃ n, Place xs key n := by
  unfold riseB at h
  rw [decide_eq_true_iff] at h
  have hj : ∀ j, j ≤ xs.length → ∃ n, n ≤ j ∧ (∀ i, i < n → keyAt xs i < key) ∧ (∀ i, n ≤ i → i < j → key ≤ keyAt xs i) := by
    intro j
    induction j with
    | zero => exact fun _ => ⟨0, Nat.le_refl _, fun i hi => absurd hi (by omega), fun i _ hi => absurd hi (by omega)⟩
    | succ j ih =>
      intro hl
      obtain ⟨n, h1, h2, h3⟩ := ih (by omega)
      by_cases hn : n = j
      · subst hn
        by_cases hk : keyAt xs n < key
        · refine ⟨n + 1, Nat.le_refl _, fun i hi => ?_, fun i h4 h5 => absurd h5 (by omega)⟩
          by_cases e : i = n
          · subst e; exact hk
          · exact h2 i (by omega)
        · refine ⟨n, by omega, h2, fun i h4 h5 => ?_⟩
          obtain rfl : i = n := by omega
          omega
      · refine ⟨n, by omega, h2, fun i h4 h5 => ?_⟩
        by_cases e : i = j
        · subst e
          have := h (i - 1) (by omega) (by omega)
          rw [show i - 1 + 1 = i by omega] at this
          have := h3 (i - 1) (by omega) (by omega)
          omega
        · exact h3 i h4 (by omega)
  obtain ⟨n, h1, h2, h3⟩ := hj xs.length (Nat.le_refl _)
  exact ⟨n, h1, h2, h3⟩
end Go.Proofs.Ytngehbhhpkkijaa

/- Trees, plain: nodes at pages; a subtree is a row of leaves. -/
namespace Go.Proofs.Ytngehbhhpkkijaa
set_option linter.unusedVariables false
set_option linter.unusedSimpArgs false

abbrev Pr := Nat × Nat
/-- A node: its level, its pairs. -/
abbrev Nd := Nat × List Pr
def ndAt (N : List Nd) (p : Nat) : Option Nd := if p = 0 then none else N[p - 1]?
def hdk (L : List (List Pr)) : Option Nat := L.flatten.head?.map Prod.fst
def Up (ps : List Pr) : Prop := ps.Pairwise fun a b => a.1 < b.1
/-- The pairs of a node lead to subtrees, one behind the other. -/
def Kids (T : Nat → List (List Pr) → List Nat → Prop) : List Pr → List (List Pr) → List Nat → Prop
  | [], L, g => L = [] ∧ g = []
  | x :: xs, L, g => ∃ L1 g1 L2 g2, T x.2 L1 g1 ∧ hdk L1 = some x.1 ∧ Kids T xs L2 g2 ∧ L = L1 ++ L2 ∧ g = g1 ++ g2
/-- What stands in a node of a level. -/
def Body (T : Nat → List (List Pr) → List Nat → Prop) (l : Nat) (xs : List Pr) (L : List (List Pr)) (h : List Nat) : Prop :=
  if l = 0 then L = (if xs = [] then [] else [xs]) ∧ h = [] else Kids T xs L h
/-- A subtree of level l at page p: its leaves, its pages. -/
def Tr (N : List Nd) : Nat → Nat → List (List Pr) → List Nat → Prop
  | 0, p, L, g => ∃ xs h, ndAt N p = some (0, xs) ∧ xs ≠ [] ∧ xs.length ≤ 15 ∧ Body (fun _ _ _ => False) 0 xs L h ∧ g = p :: h
  | l + 1, p, L, g => ∃ xs h, ndAt N p = some (l + 1, xs) ∧ xs ≠ [] ∧ xs.length ≤ 15 ∧ Body (Tr N l) (l + 1) xs L h ∧ g = p :: h
/-- The subtrees below a level. -/
def Tb (N : List Nd) : Nat → Nat → List (List Pr) → List Nat → Prop
  | 0 => fun _ _ _ => False
  | l + 1 => Tr N l
theorem Z2s {N : List Nd} {l p : Nat} {L : List (List Pr)} {g : List Nat} : Tr N l p L g ↔ ∃ xs h, ndAt N p = some (l, xs) ∧ xs ≠ [] ∧ xs.length ≤ 15 ∧ Body (Tb N l) l xs L h ∧ g = p :: h := by
  cases l <;> rfl
theorem Z0i {T : Nat → List (List Pr) → List Nat → Prop} {xs : List Pr} {L : List (List Pr)} {h : List Nat} : Body T 0 xs L h ↔ L = (if xs = [] then [] else [xs]) ∧ h = [] := by
  unfold Body; rw [if_pos rfl]
theorem Z0l {T : Nat → List (List Pr) → List Nat → Prop} {l : Nat} {xs : List Pr} {L : List (List Pr)} {h : List Nat} : Body T (l + 1) xs L h ↔ Kids T xs L h := by
  unfold Body; rw [if_neg (by omega)]
/-! Rows of subtrees. -/
section
variable {T T' : Nat → List (List Pr) → List Nat → Prop} {A B xs : List Pr} {x : Pr} {L : List (List Pr)} {g : List Nat}
theorem Kids.mono (hT : ∀ p L g, T p L g → T' p L g) : ∀ {xs : List Pr} {L : List (List Pr)} {g : List Nat}, Kids T xs L g → Kids T' xs L g
  | [], _, _, h => h
  | _ :: _, _, _, ⟨L1, g1, L2, g2, h1, h2, h3, h4, h5⟩ => ⟨L1, g1, L2, g2, hT _ _ _ h1, h2, h3.mono hT, h4, h5⟩
theorem Kids.app : ∀ {A B : List Pr} {LA LB : List (List Pr)} {gA gB : List Nat}, Kids T A LA gA → Kids T B LB gB → Kids T (A ++ B) (LA ++ LB) (gA ++ gB)
  | [], _, _, _, _, _, ⟨rfl, rfl⟩, hB => hB
  | _ :: _, _, _, _, _, _, ⟨L1, g1, L2, g2, h1, h2, h3, rfl, rfl⟩, hB => ⟨L1, g1, L2 ++ _, g2 ++ _, h1, h2, h3.app hB, by rw [List.append_assoc], by rw [List.append_assoc]⟩
theorem Kids.parts : ∀ {A B : List Pr} {L : List (List Pr)} {g : List Nat}, Kids T (A ++ B) L g → ∃ LA gA LB gB, Kids T A LA gA ∧ Kids T B LB gB ∧ L = LA ++ LB ∧ g = gA ++ gB
  | [], _, L, g, h => ⟨[], [], L, g, ⟨rfl, rfl⟩, h, rfl, rfl⟩
  | x :: A, B, L, g, ⟨L1, g1, L2, g2, h1, h2, h3, h4, h5⟩ => by
    obtain ⟨LA, gA, LB, gB, hA, hB, rfl, rfl⟩ := h3.parts
    exact ⟨L1 ++ LA, g1 ++ gA, LB, gB, ⟨L1, g1, LA, gA, h1, h2, hA, rfl, rfl⟩, hB, by rw [h4, List.append_assoc], by rw [h5, List.append_assoc]⟩
theorem Kids.one (h : T x.2 L g) (hk : hdk L = some x.1) : Kids T [x] L g := ⟨L, g, [], [], h, hk, ⟨rfl, rfl⟩, by simp, by simp⟩
theorem Kids.of_one (h : Kids T [x] L g) : T x.2 L g ∧ hdk L = some x.1 := by
  obtain ⟨L1, g1, L2, g2, h1, h2, ⟨rfl, rfl⟩, rfl, rfl⟩ := h
  rw [List.append_nil, List.append_nil]
  exact ⟨h1, h2⟩
theorem Kids.at_ (h : Kids T (A ++ x :: B) L g) : ∃ LA gA Lx gx LB gB, Kids T A LA gA ∧ T x.2 Lx gx ∧ hdk Lx = some x.1 ∧ Kids T B LB gB ∧ L = LA ++ (Lx ++ LB) ∧ g = gA ++ (gx ++ gB) := by
  obtain ⟨LA, gA, L2, g2, hA, ⟨Lx, gx, LB, gB, h1, h2, h3, rfl, rfl⟩, rfl, rfl⟩ := h.parts
  exact ⟨LA, gA, Lx, gx, LB, gB, hA, h1, h2, h3, rfl, rfl⟩
theorem hdk_app {L1 L2 : List (List Pr)} {k : Nat} (h : hdk L1 = some k) : hdk (L1 ++ L2) = some k := by
  unfold hdk at h ⊢
  rw [List.flatten_append]
  cases e : L1.flatten with
  | nil => rw [e] at h; cases h
  | cons a r => rw [e] at h; exact h
theorem Z3k {L : List (List Pr)} {k : Nat} (h : hdk L = some k) : ∃ v r, L.flatten = (k, v) :: r := by
  unfold hdk at h
  cases e : L.flatten with
  | nil => rw [e] at h; cases h
  | cons a r =>
    rw [e] at h
    obtain ⟨a1, a2⟩ := a
    injection h with h
    have h : a1 = k := h
    subst h
    exact ⟨_, _, rfl⟩
theorem Kids.hdk (h : Kids T (x :: xs) L g) : hdk L = some x.1 := by
  obtain ⟨L1, g1, L2, g2, _, h2, _, rfl, rfl⟩ := h
  exact hdk_app h2
end
/-! More nodes. -/
theorem Z4f {N : List Nd} {p : Nat} {x : Nd} (h : ndAt N p = some x) (M : List Nd) : ndAt (N ++ M) p = some x := by
  unfold ndAt at h ⊢
  split at h
  · cases h
  · rename_i h0
    rw [if_neg h0, List.getElem?_append_left (List.getElem?_eq_some_iff.1 h).1]
    exact h
theorem Z5p {N : List Nd} {p : Nat} {x : Nd} (h : ndAt N p = some x) : 1 ≤ p ∧ p ≤ N.length := by
  unfold ndAt at h
  split at h
  · cases h
  · have := (List.getElem?_eq_some_iff.1 h).1
    omega
theorem Z28 (N : List Nd) (x : Nd) (M : List Nd) : ndAt (N ++ x :: M) (N.length + 1) = some x := by
  unfold ndAt
  rw [if_neg (by omega), Nat.add_sub_cancel, List.getElem?_append_right (Nat.le_refl _), Nat.sub_self]
  rfl
theorem Tr.mono {N : List Nd} (M : List Nd) : ∀ {l p : Nat} {L : List (List Pr)} {g : List Nat}, Tr N l p L g → Tr (N ++ M) l p L g
  | 0, _, _, _, ⟨xs, h, h1, h2, h3, h4, h5⟩ => ⟨xs, h, Z4f h1 M, h2, h3, h4, h5⟩
  | l + 1, _, _, _, ⟨xs, h, h1, h2, h3, h4, h5⟩ => ⟨xs, h, Z4f h1 M, h2, h3, Z0l.2 ((Z0l.1 h4).mono fun _ _ _ h => Tr.mono M h), h5⟩
theorem Tb.mono {N : List Nd} (M : List Nd) {l p : Nat} {L : List (List Pr)} {g : List Nat} (h : Tb N l p L g) : Tb (N ++ M) l p L g := by
  cases l with
  | zero => exact h
  | succ l => exact Tr.mono M h
theorem Body.mono {N : List Nd} (M : List Nd) {l : Nat} {xs : List Pr} {L : List (List Pr)} {h : List Nat} (hb : Body (Tb N l) l xs L h) : Body (Tb (N ++ M) l) l xs L h := by
  cases l with
  | zero => exact Z0i.2 (Z0i.1 hb)
  | succ l => exact Z0l.2 ((Z0l.1 hb).mono fun _ _ _ h => Tr.mono M h)
/-! Subtrees aren't empty; their pages are there. -/
theorem Kids.all {T : Nat → List (List Pr) → List Nat → Prop} {P : List Pr → Prop} (hT : ∀ p L g, T p L g → ∀ c ∈ L, P c) : ∀ {xs : List Pr} {L : List (List Pr)} {g : List Nat}, Kids T xs L g → ∀ c ∈ L, P c
  | [], _, _, ⟨rfl, _⟩, c, hc => by cases hc
  | _ :: _, _, _, ⟨L1, g1, L2, g2, h1, h2, h3, rfl, rfl⟩, c, hc => by
    rcases List.mem_append.1 hc with hc | hc
    · exact hT _ _ _ h1 c hc
    · exact h3.all hT c hc
theorem Kids.pages {T : Nat → List (List Pr) → List Nat → Prop} {P : Nat → Prop} (hT : ∀ p L g, T p L g → ∀ c ∈ g, P c) : ∀ {xs : List Pr} {L : List (List Pr)} {g : List Nat}, Kids T xs L g → ∀ c ∈ g, P c
  | [], _, _, ⟨_, rfl⟩, c, hc => by cases hc
  | _ :: _, _, _, ⟨L1, g1, L2, g2, h1, h2, h3, rfl, rfl⟩, c, hc => by
    rcases List.mem_append.1 hc with hc | hc
    · exact hT _ _ _ h1 c hc
    · exact h3.pages hT c hc
theorem Tr.leaves {N : List Nd} : ∀ {l p : Nat} {L : List (List Pr)} {g : List Nat}, Tr N l p L g → ∀ c ∈ L, c ≠ [] ∧ c.length ≤ 15
  | 0, _, _, _, ⟨xs, h, h1, h2, h3, h4, h5⟩, c, hc => by
    obtain ⟨rfl, _⟩ := Z0i.1 h4
    rw [if_neg h2] at hc
    obtain rfl : c = xs := by simpa using hc
    exact ⟨h2, h3⟩
  | l + 1, _, _, _, ⟨xs, h, h1, h2, h3, h4, h5⟩, c, hc => (Z0l.1 h4).all (P := fun c => c ≠ [] ∧ c.length ≤ 15) (fun _ _ _ h => Tr.leaves h) c hc
theorem Tr.pages {N : List Nd} : ∀ {l p : Nat} {L : List (List Pr)} {g : List Nat}, Tr N l p L g → ∀ q ∈ g, 1 ≤ q ∧ q ≤ N.length
  | 0, _, _, _, ⟨xs, h, h1, h2, h3, h4, h5⟩, q, hq => by
    obtain ⟨_, rfl⟩ := Z0i.1 h4
    rw [h5] at hq
    rw [List.mem_singleton.1 hq]
    exact Z5p h1
  | l + 1, _, _, _, ⟨xs, h, h1, h2, h3, h4, h5⟩, q, hq => by
    rw [h5] at hq
    rcases List.mem_cons.1 hq with rfl | hq
    · exact Z5p h1
    · exact (Z0l.1 h4).pages (P := fun q => 1 ≤ q ∧ q ≤ N.length) (fun _ _ _ h => Tr.pages h) q hq
theorem Tb.pages {N : List Nd} {l p : Nat} {L : List (List Pr)} {g : List Nat} (h : Tb N l p L g) : ∀ q ∈ g, 1 ≤ q ∧ q ≤ N.length := by
  cases l with
  | zero => cases h
  | succ l => exact Tr.pages h
theorem Body.pages {N : List Nd} {l : Nat} {xs : List Pr} {L : List (List Pr)} {h : List Nat} (hb : Body (Tb N l) l xs L h) : ∀ q ∈ h, 1 ≤ q ∧ q ≤ N.length := by
  cases l with
  | zero => obtain ⟨_, rfl⟩ := Z0i.1 hb; intro q hq; cases hq
  | succ l => exact (Z0l.1 hb).pages (P := fun q => 1 ≤ q ∧ q ≤ N.length) fun _ _ _ h => Tr.pages h
theorem Tr.one {N : List Nd} {l p : Nat} {L : List (List Pr)} {g : List Nat} (h : Tr N l p L g) : ∃ r, g = p :: r := by
  obtain ⟨xs, r, _, _, _, _, e⟩ := Z2s.1 h
  exact ⟨r, e⟩
theorem Kids.ne {T : Nat → List (List Pr) → List Nat → Prop} {xs : List Pr} {L : List (List Pr)} {g : List Nat} (h : Kids T xs L g) (hx : xs ≠ []) : L.flatten ≠ [] := by
  cases xs with
  | nil => exact absurd rfl hx
  | cons x xs =>
    obtain ⟨v, r, e⟩ := Z3k h.hdk
    rw [e]
    exact List.cons_ne_nil _ _
theorem Tr.ne {N : List Nd} {l p : Nat} {L : List (List Pr)} {g : List Nat} (h : Tr N l p L g) : L.flatten ≠ [] := by
  cases l with
  | zero =>
    obtain ⟨xs, r, _, h2, _, h4, _⟩ := h
    obtain ⟨rfl, _⟩ := Z0i.1 h4
    rw [if_neg h2]
    simpa using h2
  | succ l =>
    obtain ⟨xs, r, _, h2, _, h4, _⟩ := h
    exact (Z0l.1 h4).ne h2
theorem Kids.len {T : Nat → List (List Pr) → List Nat → Prop} : ∀ {xs : List Pr} {L : List (List Pr)} {g : List Nat}, Kids T xs L g → xs.length ≤ L.length
  | [], _, _, _ => Nat.zero_le _
  | _ :: _, _, _, ⟨L1, g1, L2, g2, h1, h2, h3, rfl, rfl⟩ => by
    have := h3.len
    have h0 : L1 ≠ [] := fun e => by subst e; cases h2
    have := List.length_pos_iff.2 h0
    simp only [List.length_cons, List.length_append]
    omega
/-! Rising pairs. -/
theorem Up.app {a b : List Pr} (h : Up (a ++ b)) : Up a ∧ Up b ∧ ∀ x ∈ a, ∀ y ∈ b, x.1 < y.1 := List.pairwise_append.1 h
theorem Kids.up {T : Nat → List (List Pr) → List Nat → Prop} : ∀ {xs : List Pr} {L : List (List Pr)} {g : List Nat}, Kids T xs L g → Up L.flatten → Up xs ∧ ∀ x ∈ xs, ∃ v, (x.1, v) ∈ L.flatten
  | [], _, _, _, _ => ⟨List.Pairwise.nil, fun _ h => by cases h⟩
  | x :: xs, _, _, ⟨L1, g1, L2, g2, h1, h2, h3, rfl, rfl⟩, hu => by
    rw [List.flatten_append] at hu ⊢
    obtain ⟨hu1, hu2, hu3⟩ := hu.app
    obtain ⟨hk1, hk2⟩ := h3.up hu2
    obtain ⟨v, r, e⟩ := Z3k h2
    refine ⟨List.Pairwise.cons (fun y hy => ?_) hk1, fun y hy => ?_⟩
    · obtain ⟨u, hu⟩ := hk2 y hy
      exact hu3 (x.1, v) (by rw [e]; simp) (y.1, u) hu
    · rcases List.mem_cons.1 hy with rfl | hy
      · exact ⟨v, List.mem_append_left _ (by rw [e]; simp)⟩
      · obtain ⟨u, hu⟩ := hk2 y hy
        exact ⟨u, List.mem_append_right _ hu⟩
theorem up_at {xs : List Pr} (h : Up xs) {i j : Nat} (hij : i < j) (hj : j < xs.length) : keyAt xs i < keyAt xs j := by
  have := List.pairwise_iff_getElem.1 h i j (by omega) hj hij
  simpa [keyAt, List.getD, hj, show i < xs.length by omega] using this
theorem Z45 {xs : List Pr} (h : Up xs) : riseB xs = true := by
  unfold riseB
  rw [decide_eq_true_iff]
  exact fun i h1 h2 => up_at h (by omega) h2
/-! Insertion, deletion, look-up by filters. -/
def insP (x : Pr) (ps : List Pr) : List Pr := ps.filter (fun y => decide (y.1 < x.1)) ++ x :: ps.filter (fun y => decide (x.1 < y.1))
def delP (k : Nat) (ps : List Pr) : List Pr := ps.filter fun y => decide (y.1 ≠ k)
def lookP (k : Nat) (ps : List Pr) : Option Nat := (ps.find? fun y => decide (y.1 = k)).map Prod.snd
theorem Z2k {α : Type} {p : α → Bool} {l : List α} (h : ∀ x ∈ l, p x = false) : l.filter p = [] := List.filter_eq_nil_iff.2 fun x hx => by rw [h x hx]; decide
theorem Z1r {α : Type} {p : α → Bool} {l : List α} (h : ∀ x ∈ l, p x = true) : l.filter p = l := List.filter_eq_self.2 h
theorem Z4k {x : Pr} {a b c : List Pr} (ha : ∀ y ∈ a, y.1 < x.1) (hc : ∀ y ∈ c, x.1 < y.1) : insP x (a ++ (b ++ c)) = a ++ (insP x b ++ c) := by
  unfold insP
  simp only [List.filter_append]
  rw [Z1r (l := a) (fun y hy => decide_eq_true (ha y hy)), Z2k (l := c) (p := fun y => decide (y.1 < x.1)) (fun y hy => decide_eq_false (by have := hc y hy; omega)),
    Z2k (l := a) (p := fun y => decide (x.1 < y.1)) (fun y hy => decide_eq_false (by have := ha y hy; omega)), Z1r (l := c) (fun y hy => decide_eq_true (hc y hy))]
  simp
theorem Z4z {k : Nat} {a b c : List Pr} (ha : ∀ y ∈ a, y.1 ≠ k) (hc : ∀ y ∈ c, y.1 ≠ k) : lookP k (a ++ (b ++ c)) = lookP k b := by
  unfold lookP
  rw [List.find?_append, List.find?_append, List.find?_eq_none.2 (fun y hy => by simpa using ha y hy), List.find?_eq_none (l := c).2 (fun y hy => by simpa using hc y hy)]
  simp
theorem Z7w {x : Pr} {ps : List Pr} (h : Up ps) : Up (insP x ps) := by
  unfold insP Up
  rw [List.pairwise_append]
  refine ⟨h.filter _, List.pairwise_cons.2 ⟨fun y hy => ?_, h.filter _⟩, fun y hy z hz => ?_⟩
  · simpa using (List.mem_filter.1 hy).2
  · have h1 : y.1 < x.1 := by simpa using (List.mem_filter.1 hy).2
    rcases List.mem_cons.1 hz with rfl | hz
    · exact h1
    · have h2 : x.1 < z.1 := by simpa using (List.mem_filter.1 hz).2
      omega
theorem Z5s {x : Pr} {ps : List Pr} : insP x ps ≠ [] := by unfold insP; simp
theorem mem_insP {x y : Pr} {ps : List Pr} (h : y ∈ insP x ps) : y = x ∨ y ∈ ps := by
  unfold insP at h
  rcases List.mem_append.1 h with h | h
  · exact .inr (List.mem_filter.1 h).1
  · rcases List.mem_cons.1 h with rfl | h
    · exact .inl rfl
    · exact .inr (List.mem_filter.1 h).1
/-! A place in a node. -/
theorem Z46 {xs : List Pr} {k n : Nat} (hp : Place xs k n) : ∀ y ∈ xs.take n, y.1 < k := by
  intro y hy
  obtain ⟨i, hi, rfl⟩ := List.mem_iff_getElem.1 hy
  rw [List.length_take] at hi
  have := hp.below i (by omega)
  simpa [keyAt, List.getD, show i < xs.length by omega] using this
theorem drop_ge {xs : List Pr} {k n : Nat} (hp : Place xs k n) : ∀ y ∈ xs.drop n, k ≤ y.1 := by
  intro y hy
  obtain ⟨i, hi, rfl⟩ := List.mem_iff_getElem.1 hy
  rw [List.length_drop] at hi
  have := hp.above (n + i) (by omega) (by omega)
  simpa [keyAt, List.getD, show n + i < xs.length by omega] using this
/-- The pair of a key, if it is there, stands at its place. -/
theorem Z3g {xs : List Pr} {k n : Nat} (hu : Up xs) (hp : Place xs k n) (h : n < xs.length ∧ keyAt xs n = k) : ∃ v B, xs = xs.take n ++ (k, v) :: B ∧ (∀ y ∈ B, k < y.1) ∧ B = xs.drop (n + 1) ∧ xs[n]? = some (k, v) := by
  obtain ⟨hn, hk⟩ := h
  have e := List.drop_eq_getElem_cons hn
  obtain ⟨a, v, hx⟩ : ∃ a v, xs[n] = (a, v) := ⟨_, _, rfl⟩
  have ha : a = k := by rw [← hk]; simp [keyAt, List.getD, hn, hx]
  subst ha
  refine ⟨v, xs.drop (n + 1), ?_, ?_, rfl, by rw [List.getElem?_eq_getElem hn, hx]⟩
  · rw [← hx, ← e, List.take_append_drop]
  · have h2 : Up (xs.drop n) := hu.sublist (List.drop_sublist n xs)
    rw [e, hx] at h2
    exact (List.pairwise_cons.1 h2).1
theorem Z4b {xs : List Pr} {k n : Nat} (hu : Up xs) (hp : Place xs k n) (h : ¬ (n < xs.length ∧ keyAt xs n = k)) : ∀ y ∈ xs.drop n, k < y.1 := by
  intro y hy
  have h1 := drop_ge hp y hy
  by_cases hn : n < xs.length
  · have hk : k ≠ keyAt xs n := fun e => h ⟨hn, e.symm⟩
    have h3 := hp.above n (Nat.le_refl _) hn
    obtain ⟨i, hi, rfl⟩ := List.mem_iff_getElem.1 hy
    rw [List.length_drop] at hi
    have e : (xs.drop n)[i].1 = keyAt xs (n + i) := by simp [keyAt, List.getD, show n + i < xs.length by omega]
    rw [e]
    by_cases h0 : i = 0
    · subst h0; rw [Nat.add_zero]; omega
    · have := up_at hu (i := n) (j := n + i) (by omega) (by omega)
      omega
  · rw [List.drop_of_length_le (by omega)] at hy; cases hy
theorem insP_yes {xs : List Pr} {x : Pr} {n : Nat} (hu : Up xs) (hp : Place xs x.1 n) (h : n < xs.length ∧ keyAt xs n = x.1) : insP x xs = xs.set n x := by
  obtain ⟨v, B, e, hB, -, -⟩ := Z3g hu hp h
  have hl : (xs.take n).length = n := by rw [List.length_take]; omega
  have e2 : insP x xs = xs.take n ++ x :: B := by
    conv => lhs; rw [e]
    have h1 := Z4k (x := x) (a := xs.take n) (b := [(x.1, v)]) (c := B) (Z46 hp) hB
    rw [List.singleton_append] at h1
    rw [h1]
    unfold insP
    simp
  rw [e2]
  conv => rhs; rw [e]
  rw [List.set_append_right _ _ (by omega), hl, Nat.sub_self]
  rfl
theorem insP_no {xs : List Pr} {x : Pr} {n : Nat} (hu : Up xs) (hp : Place xs x.1 n) (h : ¬ (n < xs.length ∧ keyAt xs n = x.1)) : insP x xs = xs.take n ++ x :: xs.drop n := by
  have h1 := Z4k (x := x) (a := xs.take n) (b := []) (c := xs.drop n) (Z46 hp) (Z4b hu hp h)
  rw [List.nil_append, List.take_append_drop] at h1
  rw [h1]
  unfold insP
  simp
theorem look_yes {xs : List Pr} {k n : Nat} (hu : Up xs) (hp : Place xs k n) (h : n < xs.length ∧ keyAt xs n = k) : ∃ v, xs[n]? = some (k, v) ∧ lookP k xs = some v := by
  obtain ⟨v, B, e, hB, hB2, hx⟩ := Z3g hu hp h
  refine ⟨v, hx, ?_⟩
  conv => lhs; rw [e]
  have h1 := Z4z (k := k) (a := xs.take n) (b := [(k, v)]) (c := B) (fun y hy => by have := Z46 hp y hy; omega) (fun y hy => by have := hB y hy; omega)
  rw [List.singleton_append] at h1
  rw [h1]
  unfold lookP
  simp
theorem look_no {xs : List Pr} {k n : Nat} (hu : Up xs) (hp : Place xs k n) (h : ¬ (n < xs.length ∧ keyAt xs n = k)) : lookP k xs = none ∧ delP k xs = xs := by
  have h1 : ∀ y ∈ xs, y.1 ≠ k := by
    intro y hy
    rw [← List.take_append_drop n xs] at hy
    rcases List.mem_append.1 hy with hy | hy
    · have := Z46 hp y hy; omega
    · have := Z4b hu hp h y hy; omega
  constructor
  · unfold lookP
    rw [List.find?_eq_none.2 (fun y hy => by simpa using h1 y hy)]
    rfl
  · exact Z1r fun y hy => decide_eq_true (h1 y hy)
/-- The place of the pair by which a key is looked for. -/
def kidN (xs : List Pr) (k n : Nat) : Nat := if n < xs.length ∧ keyAt xs n = k then n else n - 1
theorem kid_at {xs : List Pr} {k n : Nat} (hu : Up xs) (hne : xs ≠ []) (hp : Place xs k n) : ∃ A y B, xs = A ++ y :: B ∧ A.length = kidN xs k n ∧ (A ≠ [] → y.1 ≤ k) ∧ (∀ z ∈ B, k < z.1) := by
  have hle := hp.le
  have h0 := List.length_pos_iff.2 hne
  have hi : kidN xs k n < xs.length := by unfold kidN; split <;> omega
  refine ⟨xs.take (kidN xs k n), xs[kidN xs k n], xs.drop (kidN xs k n + 1), ?_, ?_, ?_, ?_⟩
  · rw [← List.drop_eq_getElem_cons hi, List.take_append_drop]
  · rw [List.length_take]; omega
  · intro hA
    have hA : kidN xs k n ≠ 0 := fun e => hA (by rw [e]; rfl)
    have e : xs[kidN xs k n].1 = keyAt xs (kidN xs k n) := by simp [keyAt, List.getD, hi]
    rw [e]
    unfold kidN at hA ⊢
    split
    · rename_i h; omega
    · rename_i h
      rw [if_neg h] at hA
      exact Nat.le_of_lt (hp.below _ (by omega))
  · intro z hz
    by_cases h : n < xs.length ∧ keyAt xs n = k
    · obtain ⟨v, B, e, hB, hB2, hx⟩ := Z3g hu hp h
      have : kidN xs k n = n := by unfold kidN; rw [if_pos h]
      rw [this, ← hB2] at hz
      exact hB z hz
    · have h1 := Z4b hu hp h
      have : kidN xs k n = n - 1 := by unfold kidN; rw [if_neg h]
      rw [this] at hz
      by_cases hn : n = 0
      · subst hn
        exact h1 z (by rw [List.drop_zero]; exact List.mem_of_mem_drop hz)
      · rw [show n - 1 + 1 = n by omega] at hz
        exact h1 z hz
end Go.Proofs.Ytngehbhhpkkijaa
