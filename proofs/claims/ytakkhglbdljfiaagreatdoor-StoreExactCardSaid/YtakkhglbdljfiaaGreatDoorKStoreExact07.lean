/- Trees, plain: nodes at pages; a subtree is a row of leaves. -/
import Derived.Test.YtakkhglbdljfiaaGreatDoorKStoreExact06
import Derived.Test.YtakkhglbdljfiaaGreatDoorKStoreExact04
import Derived.Test.YtakkhglbdljfiaaGreatDoorKStoreExact02
import Derived.Test.YtakkhglbdljfiaaGreatDoorKStoreExact01
import Derived.Test.YtakkhglbdljfiaaGreatDoorKStoreExact00
import Derived.RegionTactic
import Derived.Laws.BitsAllLaws
import Derived.Laws.IdiomStrings
import Derived.Laws.BytesArg
import Derived.Lib.Strings
namespace Go.Proofs.YtakkhglbdljfiaaGreatDoor
set_option linter.unusedVariables false
set_option linter.unusedSimpArgs false

abbrev Pr := Nat × Nat
/-- A node: its level, its pairs. -/
abbrev Nd := Nat × List Pr
def ndAt (N : List Nd) (p : Nat) : Option Nd := if p = 0 then none else N[p - 1]?
def hdk (L : List (List Pr)) : Option Nat := L.flatten.head?.map Prod.fst
def Up (ps : List Pr) : Prop := ps.Pairwise fun a b => a.1 < b.1
/-- The pairs of a node lead to subtrees, one behind the other. -/
def Kids (T : Nat → List (List Pr) → List Nat → Prop) : List Pr → List (List Pr) → List Nat → Prop
  | [], L, g => L = [] ∧ g = []
  | x :: xs, L, g => ∃ L1 g1 L2 g2, T x.2 L1 g1 ∧ hdk L1 = some x.1 ∧ Kids T xs L2 g2 ∧ L = L1 ++ L2 ∧ g = g1 ++ g2
/-- What stands in a node of a level. -/
def Body (T : Nat → List (List Pr) → List Nat → Prop) (l : Nat) (xs : List Pr) (L : List (List Pr)) (h : List Nat) : Prop :=
  if l = 0 then L = (if xs = [] then [] else [xs]) ∧ h = [] else Kids T xs L h
/-- A subtree of level l at page p: its leaves, its pages. -/
def Tr (N : List Nd) : Nat → Nat → List (List Pr) → List Nat → Prop
  | 0, p, L, g => ∃ xs h, ndAt N p = some (0, xs) ∧ xs ≠ [] ∧ xs.length ≤ 15 ∧ Body (fun _ _ _ => False) 0 xs L h ∧ g = p :: h
  | l + 1, p, L, g => ∃ xs h, ndAt N p = some (l + 1, xs) ∧ xs ≠ [] ∧ xs.length ≤ 15 ∧ Body (Tr N l) (l + 1) xs L h ∧ g = p :: h
/-- The subtrees below a level. -/
def Tb (N : List Nd) : Nat → Nat → List (List Pr) → List Nat → Prop
  | 0 => fun _ _ _ => False
  | l + 1 => Tr N l
theorem Tr_iff {N : List Nd} {l p : Nat} {L : List (List Pr)} {g : List Nat} : Tr N l p L g ↔ ∃ xs h, ndAt N p = some (l, xs) ∧ xs ≠ [] ∧ xs.length ≤ 15 ∧ Body (Tb N l) l xs L h ∧ g = p :: h := by
  cases l <;> rfl
theorem Z2b {T : Nat → List (List Pr) → List Nat → Prop} {xs : List Pr} {L : List (List Pr)} {h : List Nat} : Body T 0 xs L h ↔ L = (if xs = [] then [] else [xs]) ∧ h = [] := by
  unfold Body; rw [if_pos rfl]
theorem Z1v {T : Nat → List (List Pr) → List Nat → Prop} {l : Nat} {xs : List Pr} {L : List (List Pr)} {h : List Nat} : Body T (l + 1) xs L h ↔ Kids T xs L h := by
  unfold Body; rw [if_neg (by omega)]
/-! Rows of subtrees. -/
section
variable {T T' : Nat → List (List Pr) → List Nat → Prop} {A B xs : List Pr} {x : Pr} {L : List (List Pr)} {g : List Nat}
theorem Kids.mono (hT : ∀ p L g, T p L g → T' p L g) : ∀ {xs : List Pr} {L : List (List Pr)} {g : List Nat}, Kids T xs L g → Kids T' xs L g
  | [], _, _, h => h
  | _ :: _, _, _, ⟨L1, g1, L2, g2, h1, h2, h3, h4, h5⟩ => ⟨L1, g1, L2, g2, hT _ _ _ h1, h2, h3.mono hT, h4, h5⟩
theorem Kids.app : ∀ {A B : List Pr} {LA LB : List (List Pr)} {gA gB : List Nat}, Kids T A LA gA → Kids T B LB gB → Kids T (A ++ B) (LA ++ LB) (gA ++ gB)
  | [], _, _, _, _, _, ⟨rfl, rfl⟩, hB => hB
  | _ :: _, _, _, _, _, _, ⟨L1, g1, L2, g2, h1, h2, h3, rfl, rfl⟩, hB => ⟨L1, g1, L2 ++ _, g2 ++ _, h1, h2, h3.app hB, by rw [List.append_assoc], by rw [List.append_assoc]⟩
theorem Kids.parts : ∀ {A B : List Pr} {L : List (List Pr)} {g : List Nat}, Kids T (A ++ B) L g → ∃ LA gA LB gB, Kids T A LA gA ∧ Kids T B LB gB ∧ L = LA ++ LB ∧ g = gA ++ gB
  | [], _, L, g, h => ⟨[], [], L, g, ⟨rfl, rfl⟩, h, rfl, rfl⟩
  | x :: A, B, L, g, ⟨L1, g1, L2, g2, h1, h2, h3, h4, h5⟩ => by
    obtain ⟨LA, gA, LB, gB, hA, hB, rfl, rfl⟩ := h3.parts
    exact ⟨L1 ++ LA, g1 ++ gA, LB, gB, ⟨L1, g1, LA, gA, h1, h2, hA, rfl, rfl⟩, hB, by rw [h4, List.append_assoc], by rw [h5, List.append_assoc]⟩
theorem Kids.one (h : T x.2 L g) (hk : hdk L = some x.1) : Kids T [x] L g := ⟨L, g, [], [], h, hk, ⟨rfl, rfl⟩, by simp, by simp⟩
theorem Kids.at_ (h : Kids T (A ++ x :: B) L g) : ∃ LA gA Lx gx LB gB, Kids T A LA gA ∧ T x.2 Lx gx ∧ hdk Lx = some x.1 ∧ Kids T B LB gB ∧ L = LA ++ (Lx ++ LB) ∧ g = gA ++ (gx ++ gB) := by
  obtain ⟨LA, gA, L2, g2, hA, ⟨Lx, gx, LB, gB, h1, h2, h3, rfl, rfl⟩, rfl, rfl⟩ := h.parts
  exact ⟨LA, gA, Lx, gx, LB, gB, hA, h1, h2, h3, rfl, rfl⟩
theorem hdk_app {L1 L2 : List (List Pr)} {k : Nat} (h : hdk L1 = some k) : hdk (L1 ++ L2) = some k := by
  unfold hdk at h ⊢
  rw [List.flatten_append]
  cases e : L1.flatten with
  | nil => rw [e] at h; cases h
  | cons a r => rw [e] at h; exact h
theorem hdk_mem {L : List (List Pr)} {k : Nat} (h : hdk L = some k) : ∃ v r, L.flatten = (k, v) :: r := by
  unfold hdk at h
  cases e : L.flatten with
  | nil => rw [e] at h; cases h
  | cons a r =>
    rw [e] at h
    obtain ⟨a1, a2⟩ := a
    injection h with h
    have h : a1 = k := h
    subst h
    exact ⟨_, _, rfl⟩
theorem Kids.hdk (h : Kids T (x :: xs) L g) : hdk L = some x.1 := by
  obtain ⟨L1, g1, L2, g2, _, h2, _, rfl, rfl⟩ := h
  exact hdk_app h2
end
/-! More nodes. -/
theorem ndAt_app {N : List Nd} {p : Nat} {x : Nd} (h : ndAt N p = some x) (M : List Nd) : ndAt (N ++ M) p = some x := by
  unfold ndAt at h ⊢
  split at h
  · cases h
  · rename_i h0
    rw [if_neg h0, List.getElem?_append_left (List.getElem?_eq_some_iff.1 h).1]
    exact h
theorem ndAt_le {N : List Nd} {p : Nat} {x : Nd} (h : ndAt N p = some x) : 1 ≤ p ∧ p ≤ N.length := by
  unfold ndAt at h
  split at h
  · cases h
  · have := (List.getElem?_eq_some_iff.1 h).1
    omega
theorem Tr.mono {N : List Nd} (M : List Nd) : ∀ {l p : Nat} {L : List (List Pr)} {g : List Nat}, Tr N l p L g → Tr (N ++ M) l p L g
  | 0, _, _, _, ⟨xs, h, h1, h2, h3, h4, h5⟩ => ⟨xs, h, ndAt_app h1 M, h2, h3, h4, h5⟩
  | l + 1, _, _, _, ⟨xs, h, h1, h2, h3, h4, h5⟩ => ⟨xs, h, ndAt_app h1 M, h2, h3, Z1v.2 ((Z1v.1 h4).mono fun _ _ _ h => Tr.mono M h), h5⟩
theorem Tb.mono {N : List Nd} (M : List Nd) {l p : Nat} {L : List (List Pr)} {g : List Nat} (h : Tb N l p L g) : Tb (N ++ M) l p L g := by
  cases l with
  | zero => exact h
  | succ l => exact Tr.mono M h
theorem Body.mono {N : List Nd} (M : List Nd) {l : Nat} {xs : List Pr} {L : List (List Pr)} {h : List Nat} (hb : Body (Tb N l) l xs L h) : Body (Tb (N ++ M) l) l xs L h := by
  cases l with
  | zero => exact Z2b.2 (Z2b.1 hb)
  | succ l => exact Z1v.2 ((Z1v.1 hb).mono fun _ _ _ h => Tr.mono M h)
/-! Subtrees aren't empty; their pages are there. -/
theorem Kids.all {T : Nat → List (List Pr) → List Nat → Prop} {P : List Pr → Prop} (hT : ∀ p L g, T p L g → ∀ c ∈ L, P c) : ∀ {xs : List Pr} {L : List (List Pr)} {g : List Nat}, Kids T xs L g → ∀ c ∈ L, P c
  | [], _, _, ⟨rfl, _⟩, c, hc => by cases hc
  | _ :: _, _, _, ⟨L1, g1, L2, g2, h1, h2, h3, rfl, rfl⟩, c, hc => by
    rcases List.mem_append.1 hc with hc | hc
    · exact hT _ _ _ h1 c hc
    · exact h3.all hT c hc
theorem Kids.pages {T : Nat → List (List Pr) → List Nat → Prop} {P : Nat → Prop} (hT : ∀ p L g, T p L g → ∀ c ∈ g, P c) : ∀ {xs : List Pr} {L : List (List Pr)} {g : List Nat}, Kids T xs L g → ∀ c ∈ g, P c
  | [], _, _, ⟨_, rfl⟩, c, hc => by cases hc
  | _ :: _, _, _, ⟨L1, g1, L2, g2, h1, h2, h3, rfl, rfl⟩, c, hc => by
    rcases List.mem_append.1 hc with hc | hc
    · exact hT _ _ _ h1 c hc
    · exact h3.pages hT c hc
theorem Tr.leaves {N : List Nd} : ∀ {l p : Nat} {L : List (List Pr)} {g : List Nat}, Tr N l p L g → ∀ c ∈ L, c ≠ [] ∧ c.length ≤ 15
  | 0, _, _, _, ⟨xs, h, h1, h2, h3, h4, h5⟩, c, hc => by
    obtain ⟨rfl, _⟩ := Z2b.1 h4
    rw [if_neg h2] at hc
    obtain rfl : c = xs := by simpa using hc
    exact ⟨h2, h3⟩
  | l + 1, _, _, _, ⟨xs, h, h1, h2, h3, h4, h5⟩, c, hc => (Z1v.1 h4).all (P := fun c => c ≠ [] ∧ c.length ≤ 15) (fun _ _ _ h => Tr.leaves h) c hc
theorem Tr.pages {N : List Nd} : ∀ {l p : Nat} {L : List (List Pr)} {g : List Nat}, Tr N l p L g → ∀ q ∈ g, 1 ≤ q ∧ q ≤ N.length
  | 0, _, _, _, ⟨xs, h, h1, h2, h3, h4, h5⟩, q, hq => by
    obtain ⟨_, rfl⟩ := Z2b.1 h4
    rw [h5] at hq
    rw [List.mem_singleton.1 hq]
    exact ndAt_le h1
  | l + 1, _, _, _, ⟨xs, h, h1, h2, h3, h4, h5⟩, q, hq => by
    rw [h5] at hq
    rcases List.mem_cons.1 hq with rfl | hq
    · exact ndAt_le h1
    · exact (Z1v.1 h4).pages (P := fun q => 1 ≤ q ∧ q ≤ N.length) (fun _ _ _ h => Tr.pages h) q hq
theorem Tb.pages {N : List Nd} {l p : Nat} {L : List (List Pr)} {g : List Nat} (h : Tb N l p L g) : ∀ q ∈ g, 1 ≤ q ∧ q ≤ N.length := by
  cases l with
  | zero => cases h
  | succ l => exact Tr.pages h
theorem Body.pages {N : List Nd} {l : Nat} {xs : List Pr} {L : List (List Pr)} {h : List Nat} (hb : Body (Tb N l) l xs L h) : ∀ q ∈ h, 1 ≤ q ∧ q ≤ N.length := by
  cases l with
  | zero => obtain ⟨_, rfl⟩ := Z2b.1 hb; intro q hq; cases hq
  | succ l => exact (Z1v.1 hb).pages (P := fun q => 1 ≤ q ∧ q ≤ N.length) fun _ _ _ h => Tr.pages h
theorem Tr.one {N : List Nd} {l p : Nat} {L : List (List Pr)} {g : List Nat} (h : Tr N l p L g) : ∃ r, g = p :: r := by
  obtain ⟨xs, r, _, _, _, _, e⟩ := Tr_iff.1 h
  exact ⟨r, e⟩
theorem Kids.ne {T : Nat → List (List Pr) → List Nat → Prop} {xs : List Pr} {L : List (List Pr)} {g : List Nat} (h : Kids T xs L g) (hx : xs ≠ []) : L.flatten ≠ [] := by
  cases xs with
  | nil => exact absurd rfl hx
  | cons x xs =>
    obtain ⟨v, r, e⟩ := hdk_mem h.hdk
    rw [e]
    exact List.cons_ne_nil _ _
theorem Tr.ne {N : List Nd} {l p : Nat} {L : List (List Pr)} {g : List Nat} (h : Tr N l p L g) : L.flatten ≠ [] := by
  cases l with
  | zero =>
    obtain ⟨xs, r, _, h2, _, h4, _⟩ := h
    obtain ⟨rfl, _⟩ := Z2b.1 h4
    rw [if_neg h2]
    simpa using h2
  | succ l =>
    obtain ⟨xs, r, _, h2, _, h4, _⟩ := h
    exact (Z1v.1 h4).ne h2
theorem Kids.len {T : Nat → List (List Pr) → List Nat → Prop} : ∀ {xs : List Pr} {L : List (List Pr)} {g : List Nat}, Kids T xs L g → xs.length ≤ L.length
  | [], _, _, _ => Nat.zero_le _
  | _ :: _, _, _, ⟨L1, g1, L2, g2, h1, h2, h3, rfl, rfl⟩ => by
    have := h3.len
    have h0 : L1 ≠ [] := fun e => by subst e; cases h2
    have := List.length_pos_iff.2 h0
    simp only [List.length_cons, List.length_append]
    omega
/-! Rising pairs. -/
theorem Up.app {a b : List Pr} (h : Up (a ++ b)) : Up a ∧ Up b ∧ ∀ x ∈ a, ∀ y ∈ b, x.1 < y.1 := List.pairwise_append.1 h
theorem Kids.up {T : Nat → List (List Pr) → List Nat → Prop} : ∀ {xs : List Pr} {L : List (List Pr)} {g : List Nat}, Kids T xs L g → Up L.flatten → Up xs ∧ ∀ x ∈ xs, ∃ v, (x.1, v) ∈ L.flatten
  | [], _, _, _, _ => ⟨List.Pairwise.nil, fun _ h => by cases h⟩
  | x :: xs, _, _, ⟨L1, g1, L2, g2, h1, h2, h3, rfl, rfl⟩, hu => by
    rw [List.flatten_append] at hu ⊢
    obtain ⟨hu1, hu2, hu3⟩ := hu.app
    obtain ⟨hk1, hk2⟩ := h3.up hu2
    obtain ⟨v, r, e⟩ := hdk_mem h2
    refine ⟨List.Pairwise.cons (fun y hy => ?_) hk1, fun y hy => ?_⟩
    · obtain ⟨u, hu⟩ := hk2 y hy
      exact hu3 (x.1, v) (by rw [e]; simp) (y.1, u) hu
    · rcases List.mem_cons.1 hy with rfl | hy
      · exact ⟨v, List.mem_append_left _ (by rw [e]; simp)⟩
      · obtain ⟨u, hu⟩ := hk2 y hy
        exact ⟨u, List.mem_append_right _ hu⟩
/-! Insertion, deletion, look-up by filters. -/
/-! A place in a node. -/
open Go.RowKit Go.Maps

abbrev flatP (ps : List Pr) : List Value := ps.flatMap pairC
theorem Z7w (ps : List Pr) : (flatP ps).length = ps.length * 2 := by
  induction ps with
  | nil => rfl
  | cons x ps ih => rw [flatP, List.flatMap_cons, List.length_append, ih, List.length_cons]; show 2 + _ = _; omega
theorem flatP_one (ps : List Pr) : ∀ u ∈ flatP ps, u.oneCell' = true := by
  intro u hu
  obtain ⟨x, _, hx⟩ := List.mem_flatMap.1 hu
  simp [pairC] at hx
  rcases hx with rfl | rfl <;> rfl
/-- A row of pairs as a thing. -/
abbrev tPs (v : Value) (ps : List Pr) : Thing := tRow 98 2 v ps.length (flatP ps)
def tPool (vs : List Value) (N : List Nd) : Thing where
  foot := vs.flatMap fun v => v.ownBlock.toList
  holds := fun w => vs.length = N.length ∧ ∀ i v nd, vs[i]? = some v → N[i]? = some nd → (tPs v nd.2).holds w
  keep := fun w w' hs h ⟨h1, h2⟩ => ⟨h1, fun i v nd hv hn => (tPs v nd.2).keep w w' hs (fun j hj => h j (List.mem_flatMap.2 ⟨v, List.mem_of_getElem? hv, hj⟩)) (h2 i v nd hv hn)⟩
  lt := fun w ⟨h1, h2⟩ i hi => by
    obtain ⟨v, hv, hj⟩ := List.mem_flatMap.1 hi
    obtain ⟨k, hk⟩ := List.getElem?_of_mem hv
    have hkl := (List.getElem?_eq_some_iff.1 hk).1
    exact (tPs v (N[k]'(by omega)).2).lt w (h2 k v _ hk (List.getElem?_eq_getElem (by omega))) i hj
section
variable {H : Nat} {A w w' : World} {R : List Thing} {X Y Z : Thing}
/-- Two things in one. -/
theorem OwnT.merge (h : OwnT H A (X :: Y :: R) w) (hz : Z.holds w) (hf : ∀ i ∈ Z.foot, i ∈ X.foot ∨ i ∈ Y.foot) : OwnT H A (Z :: R) w := by
  have hd := List.pairwise_cons.1 h.diff
  have hd2 := List.pairwise_cons.1 hd.2
  refine ⟨h.below, h.size, ⟨hz, h.all.2.2⟩, fun x hx i hi => ?_, List.Pairwise.cons (fun y hy i hi hj => ?_) hd2.2⟩
  · rcases List.mem_cons.1 hx with rfl | hx
    · rcases hf i hi with h1 | h1
      · exact h.high X (by simp) i h1
      · exact h.high Y (by simp) i h1
    · exact h.high x (by simp [hx]) i hi
  · rcases hf i hi with h1 | h1
    · exact hd.1 y (by simp [hy]) i h1 hj
    · exact hd2.1 y hy i h1 hj
theorem OwnT.poolAdd {vs : List Value} {N : List Nd} {v : Value} {l : Nat} {ps : List Pr} (h : OwnT H A (tPs v ps :: tPool vs N :: R) w) : OwnT H A (tPool (vs ++ [v]) (N ++ [(l, ps)]) :: R) w := by
  obtain ⟨h1, h2, _⟩ := h.all
  refine h.merge ⟨by rw [List.length_append, List.length_append, h2.1]; rfl, fun i u nd hu hn => ?_⟩ (fun i hi => ?_)
  · by_cases hi : i < N.length
    · rw [List.getElem?_append_left (by rw [h2.1]; exact hi)] at hu
      rw [List.getElem?_append_left hi] at hn
      exact h2.2 i u nd hu hn
    · rw [List.getElem?_append_right (by rw [h2.1]; omega)] at hu
      rw [List.getElem?_append_right (by omega)] at hn
      have e1 : i - N.length = 0 := by
        have := (List.getElem?_eq_some_iff.1 hn).1
        simpa using this
      rw [e1] at hn
      rw [h2.1, e1] at hu
      obtain rfl : v = u := by simpa using hu
      obtain rfl : (l, ps) = nd := by simpa using hn
      exact h1
  · show i ∈ (tPs v ps).foot ∨ _
    have hi : i ∈ (vs ++ [v]).flatMap fun v => v.ownBlock.toList := hi
    rw [List.flatMap_append] at hi
    rcases List.mem_append.1 hi with hi | hi
    · exact .inr hi
    · exact .inl (by simpa [tRow] using hi)
theorem pool_nil (h : OwnT H A R w) : OwnT H A (tPool [] [] :: R) w :=
  h.cons (Ext.refl w) _ ⟨rfl, fun i v nd hv => by simp at hv⟩ (fun i hi => by cases hi)
/-- A row of pairs: nil, or in a block. -/
def SlB (B : Option Addr) (cap : Nat) (ps : List Pr) : Prop := (B = none ∧ ps = [] ∧ cap = 0) ∨ ∃ g off, B = some ⟨g, off, none⟩
theorem Z4c {v : Value} {ps : List Pr} (h : (tPs v ps).holds w) : ∃ B cap, v = .slice B ps.length cap ∧ ps.length ≤ cap ∧ cap ≤ maxLen ∧ Row w B 2 pairC ps ∧ SlB B cap ps := by
  obtain ⟨B, cap, e, h1, h2, _, h4⟩ := Z57 (enc := pairC) (X := ps) (fun _ => rfl) (by decide) h
  refine ⟨B, cap, e, h1, h2, h4, ?_⟩
  rcases h.2 with ⟨e1, e2⟩ | ⟨g, cap', cur, e1, _⟩
  · rw [e] at e1
    injection e1 with e1 _ e3
    exact .inl ⟨e1, List.eq_nil_of_length_eq_zero e2, e3⟩
  · rw [e] at e1
    injection e1 with e1
    exact .inr ⟨g, 0, e1⟩
end
end Go.Proofs.YtakkhglbdljfiaaGreatDoor

/- rows of pairs: what is appended, Clone (printed by XTrC0.gen.py). -/
namespace Go.Proofs.YtakkhglbdljfiaaGreatDoor
attribute [local simp] BigFrame.eval_const BigFrame.eval_global BigFrame.eval_func
set_option linter.unusedVariables false
set_option linter.unusedSimpArgs false
open Go.RowKit Go.Maps

theorem elemPr : ElemI Tryz.prog 45 98 2 16 := ⟨Tryz.underlying45, by
 have h : (Tryz.prog.info? 98).map (fun i => (i.zero, i.size, i.bytes)) = some (some (.agg #[.int .u64 0, .int .u64 0]), 2, 16) := by kernel_rfl
 obtain ⟨i, h1, h2, h3, h4⟩ := info_parts h
 exact ⟨i, _, h1, h2, h3, h4, rfl⟩⟩
theorem app_many {P : Program} {H : Nat} {A w : World} {T t : TypeId} {k n m c bytes : Nat} {v : Value} {xs news : List Value} {G : List Thing} {p : Addr} (O : OwnT H A (tRow T k v n xs :: G) w) (E : ElemI P t T k bytes) (hk : 0 < k) (hlen : news.length = m * k) (hn : ∀ j u, news[j]? = some u → w.cell? (p.add j) = some u) (h1 : ∀ u ∈ news, u.oneCell' = true) (h63 : n + m ≤ maxLen) (hbytes : (n + m) * bytes ≤ 140737488355328) :
 ∃ v' w', (∀ ty, (Builtin.append_ #[t, t] ty #[v, .slice (some p) m c]).run P w = .ok v' w') ∧ OwnT H A (tRow T k v' (n + m) (xs ++ news) :: G) w' := by
 obtain ⟨i, z, hi, hz, hs, hby, hzs⟩ := E.info
 obtain ⟨v', w', hrun, h2, h3, h4⟩ := Z2h (P := P) w t t T i z k bytes E.ht hi hz hs hby hzs hk v n xs O.r0 p m c news hlen hn h1 h63 hbytes
 exact ⟨v', w', fun _ => hrun, O.row h2 h3 h4⟩
/-- An append in order. -/
theorem app_seq {P : Program} {H : Nat} {A w : World} {T t : TypeId} {k n g bytes : Nat} {v : Value} {xs news : List Value} {G : List Thing} (O : OwnT H A (tBlk g T news.toArray :: tRow T k v n xs :: G) w) (E : ElemI P t T k bytes) (hk : 0 < k) (hlen : news.length = k) (h1 : ∀ u ∈ news, u.oneCell' = true) (h63 : n + 1 ≤ maxLen) (hbytes : (n + 1) * bytes ≤ 140737488355328) :
 ∃ gr cap w', (∀ ty, (Builtin.append_ #[t, t] ty #[v, .slice (some ⟨g, 0, none⟩) 1 1]).run P w = .ok (.slice (some ⟨gr, 0, none⟩) (n + 1) cap) w') ∧ OwnT H A (tRow T k (.slice (some ⟨gr, 0, none⟩) (n + 1) cap) (n + 1) (xs ++ news) :: G) w' := by
 obtain ⟨i, z, hi, hz, hs, hby, hzs⟩ := E.info
 obtain ⟨r, w', hrun, h3⟩ := (O.perm (.swap _ _ _)).appendOne (P := P) t i z bytes E.ht hi hz hs hby hzs hk g T news O.b0 hlen h1 h63 hbytes
 obtain ⟨gr, cap, rfl⟩ := OwnT.slice0 h3 (by omega)
 exact ⟨gr, cap, w', hrun, h3.pick01⟩
theorem flatP_cells {w : World} {g off : Nat} {ps : List Pr} (h : Row w (some ⟨g, off, none⟩) 2 pairC ps) : ∀ j u, (flatP ps)[j]? = some u → w.cell? ((⟨g, off, none⟩ : Addr).add j) = some u := by
 intro j u hu; have hadd : (⟨g, off, none⟩ : Addr).add j = ⟨g, off + j, none⟩ := by unfold Addr.add; split <;> simp_all
 rw [hadd]
 have hjl := (List.getElem?_eq_some_iff.1 hu).1
 rw [Z7w] at hjl
 obtain ⟨x, hx⟩ : ∃ x, ps[j / 2]? = some x := ⟨_, List.getElem?_eq_getElem (by omega)⟩
 obtain ⟨b, o, e, _, hc⟩ := h (j / 2) x hx
 injection e with e
 injection e with e1 e2
 subst e1 e2
 have h2 : (pairC x)[j % 2]? = some u := by
  have hm : j % 2 < 2 := Nat.mod_lt _ (by omega)
  rcases (show j % 2 = 0 ∨ j % 2 = 1 by omega) with hm | hm
  · have h3 := Z3n (enc := pairC) (c := 2) (fun _ => rfl) ps (j / 2) x 0 (.int .u64 x.1) hx rfl
    rw [show j / 2 * 2 + 0 = j by omega] at h3
    rw [hm, ← hu]; exact h3.symm ▸ rfl
  · have h3 := Z3n (enc := pairC) (c := 2) (fun _ => rfl) ps (j / 2) x 1 (.int .u64 x.2) hx rfl
    rw [show j / 2 * 2 + 1 = j by omega] at h3
    rw [hm, ← hu]; exact h3.symm ▸ rfl
 have := hc (j % 2) u h2
 rwa [show off + j / 2 * 2 + j % 2 = off + j by omega] at this
theorem OwnT.asRowE {g k : Nat} {T : TypeId} {H : Nat} {A w : World} {L : List Thing} (h : OwnT H A (tBlk g T #[] :: L) w) : OwnT H A (tRow T k (.slice (some ⟨g, 0, none⟩) 0 0) 0 [] :: L) w :=
 h.call (F := []) (Chg.refl [] w) (by simp) (tRow T k (.slice (some ⟨g, 0, none⟩) 0 0) 0 []) (row_of h.b0 (Nat.le_refl _) (by decide) (by simp) (by simp)) (fun i hi => .inl (by simpa [tRow, tBlk, Value.ownBlock] using hi))
theorem eq_nil (w : World) : (binOp .eql 45 (.slice none 0 0) (.slice none 0 0)).run Tryz.prog w = .ok (.bool true) w := by kernel_rfl
theorem eq_some (g off n cap : Nat) (w : World) : (binOp .eql 45 (.slice (some ⟨g, off, none⟩) n cap) (.slice none 0 0)).run Tryz.prog w = .ok (.bool false) w := by kernel_rfl
theorem cellB {W0 w : World} (hb : Below W0.heap.size W0 w) {b o : Nat} {v : Value} (h : W0.cell? ⟨b, o, none⟩ = some v) : w.cell? ⟨b, o, none⟩ = some v := by
 have hlt : b < W0.heap.size := by
  rcases Nat.lt_or_ge b W0.heap.size with h1 | h1
  · exact h1
  · simp [World.cell?, Array.getElem?_eq_none h1] at h
 rw [← h]
 exact hb.cell (p := ⟨b, o, none⟩) hlt

theorem clone_nil (W0 : World) : Calls Tryz.prog 50 #[.slice none 0 0] W0 fun e w' => ∃ v', e = .returned v' ∧ w'.ownsRow W0.heap.size 98 2 v' 0 (flatP []) ∧ Ext W0 w' := by
 have O := OwnT.start W0
 refine Z0c Tryz.func50 rfl 8 rfl (by rfl) ?_
 intro a1 k hargs; have e0 : a1.eval (.tmp 0) = .slice none 0 0 := hargs 0 _ rfl
 clear hargs; refine wp_seq ?_; refine wp_region_lit ?_
 have hE := Env.refl a1 [2]; refine sd 2 hE k (Z01 rfl rfl) ?_; intro a2 hE e2 kp; refine wpList_nil ?_; replace e0 := hE.g e0; replace k := k.env hE; clear hE e2; refine Z00 (wp_seq ?_); refine wp_seq ?_; refine wp_region_lit ?_
 have hE := Env.refl a2 [3, 4]; refine zm 3 hE k e0 ?_; intro a3 hE e3 kp; apply Z03 4 hE k rfl rfl rfl rfl; case h =>
  simp [go_sem, ↓IntWalk.iteOmega, ev e3, eq_nil]
  with_reducible rfl
 intro a4 hE e4 kp; refine wpList_nil ?_; replace e0 := hE.g e0; replace k := k.env hE; clear hE; refine Z00 ?_; refine Z0h e4 rfl ?_
 refine wp_seq ?_; refine wp_region_lit ?_
 have hE := Env.refl a4 [2]; refine sd 2 hE k (Z01 rfl rfl) ?_; intro a5 hE e2 kp; refine wpList_nil ?_; replace k := k.env hE; clear hE e0 e4; refine Z00 ?_; refine wp_ret ?_
 refine Z0m ?_
 refine Z0k rfl k e2 ?_
 exact ⟨_, rfl, (OwnT.nilRow O 98 2).rowBase, O.below⟩
set_option maxRecDepth 100000 in
set_option maxHeartbeats 4000000 in
theorem clone_some (g off cap n : Nat) (ps : List Pr) (W0 : World) (hl : ps.length = n) (hrow : Row W0 (some ⟨g, off, none⟩) 2 pairC ps) (hn : n ≤ 1000000) : Calls Tryz.prog 50 #[.slice (some ⟨g, off, none⟩) n cap] W0 fun e w' => ∃ v', e = .returned v' ∧ w'.ownsRow W0.heap.size 98 2 v' n (flatP ps) ∧ Ext W0 w' := by
 have O := OwnT.start W0
 refine Z0c Tryz.func50 rfl 8 rfl (by rfl) ?_
 intro a1 k hargs; have e0 : a1.eval (.tmp 0) = .slice (some ⟨g, off, none⟩) n cap := hargs 0 _ rfl
 clear hargs; refine wp_seq ?_; refine wp_region_lit ?_
 have hE := Env.refl a1 [2]; refine sd 2 hE k (Z01 rfl rfl) ?_; intro a2 hE e2 kp; refine wpList_nil ?_; replace e0 := hE.g e0; replace k := k.env hE; clear hE e2; refine Z00 (wp_seq ?_); refine wp_seq ?_; refine wp_region_lit ?_
 have hE := Env.refl a2 [3, 4]; refine zm 3 hE k e0 ?_; intro a3 hE e3 kp; apply Z03 4 hE k rfl rfl rfl rfl; case h =>
  simp [go_sem, ↓IntWalk.iteOmega, ev e3, eq_some]
  with_reducible rfl
 intro a4 hE e4 kp; refine wpList_nil ?_; replace e0 := hE.g e0; replace k := k.env hE; clear hE; refine Z00 ?_; refine Z07 e4 rfl ?_
 refine wp_skip ?_; refine Z00 (wp_seq ?_); refine wp_region_lit ?_
 have hE := Env.refl a4 [5, 6, 7, 2]; refine Z3z (m := 0) (c := 0) O (cs := #[]) (t := 98) 5 hE k rfl (by rfl) (by rfl) rfl (by simp [go_sem, ↓IntWalk.iteOmega]) ?_
 clear O; intro g0 a5 w6 O hE e5 kp; refine zm 6 hE k e0 ?_; intro a7 hE e6 kp; replace e5 := kt kp e5; obtain ⟨v2, w2, hrun, O2⟩ := app_many (m := n) (c := cap) (OwnT.asRowE (k := 2) O) elemPr (by decide) (by rw [Z7w, hl]) (flatP_cells (hrow.below O.below)) (flatP_one ps) (by unfold maxLen; omega) (by omega)
 refine Z3w rfl _ _ _ _ rfl _ _ e5 e6 (hrun _) ?_
 replace O := O2
 clear O2 hrun; refine put_F 7 hE k (by rfl) (by rfl) ?_
 intro a8 hE e7 kp; refine sd 2 hE k (Z01 rfl e7) ?_; intro a9 hE e2 kp; refine wpList_nil ?_; replace k := k.env hE; clear hE e0 e4; refine Z00 ?_; refine wp_ret ?_
 refine Z0k rfl k e2 ?_
 exact ⟨_, rfl, by have h := O.rowBase; rwa [Nat.zero_add, List.nil_append] at h, O.below⟩
/-- A row's clone. -/
theorem Z7y {H : Nat} {A0 : World} {R : List Thing} {B : Option Addr} {cap n : Nat} (ps : List Pr) (w : World) (O : OwnT H A0 R w) (hl : ps.length = n) (hrow : Row w B 2 pairC ps) (hB : SlB B cap ps) (hn : n ≤ 1000000) :
 Calls Tryz.prog 50 #[.slice B n cap] w fun e w' => ∃ v', e = .returned v' ∧ OwnT H A0 (tPs v' ps :: R) w' ∧ Ext w w' := by
 subst hl
 rcases hB with ⟨rfl, rfl, rfl⟩ | ⟨g, off, rfl⟩
 · refine (clone_nil w).mono ?_
   rintro e w' ⟨v', rfl, h1, h2⟩
   exact ⟨v', rfl, O.newRow h2 h1, h2⟩
 · refine (clone_some g off cap _ ps w rfl hrow hn).mono ?_
   rintro e w' ⟨v', rfl, h1, h2⟩
   exact ⟨v', rfl, O.newRow h2 h1, h2⟩

end Go.Proofs.YtakkhglbdljfiaaGreatDoor

/- Plain: bytes of numbers, the sum of bytes (CRC) as a linear, one-to-one step. No program in sight. -/
namespace Go.Proofs.YtakkhglbdljfiaaGreatDoor
set_option linter.unusedVariables false
set_option linter.unusedSimpArgs false

/-- The lowest k bytes of n, the lowest first. -/
def le (n : Nat) : Nat → List UInt8
  | 0 => []
  | k + 1 => le n k ++ [UInt8.ofNat (n / 256 ^ k)]
theorem Z0i (n k : Nat) : (le n k).length = k := by
  induction k with
  | zero => rfl
  | succ k ih => simp [le, ih]
theorem le_get (n k i : Nat) (h : i < k) : (le n k)[i]? = some (UInt8.ofNat (n / 256 ^ i)) := by
  induction k with
  | zero => omega
  | succ k ih =>
    simp only [le]
    by_cases hi : i < k
    · rw [List.getElem?_append_left (by rw [Z0i]; exact hi)]
      exact ih hi
    · have : i = k := by omega
      subst this
      rw [List.getElem?_append_right (by rw [Z0i]; omega), Z0i]
      simp

/-- One bit. -/
def crcT (c : Nat) : Nat := if c % 2 = 1 then (c / 2) ^^^ 2197175160 else c / 2
def crcIt : Nat → Nat → Nat
  | 0, c => c
  | k + 1, c => crcT (crcIt k c)
/-- One byte. -/
def crcStep (c b : Nat) : Nat := crcIt 8 (c ^^^ b)
def crcState (c : Nat) (l : List UInt8) : Nat := l.foldl (fun c b => crcStep c b.toNat) c
def crcSum (l : List UInt8) : Nat := crcState 4294967295 l ^^^ 4294967295

theorem crcT_lt {c : Nat} (h : c < 4294967296) : crcT c < 4294967296 := by
  unfold crcT
  split
  · exact Nat.xor_lt_two_pow (n := 32) (by omega) (by decide)
  · omega
theorem crcIt_lt {c : Nat} (k : Nat) (h : c < 4294967296) : crcIt k c < 4294967296 := by
  induction k with
  | zero => exact h
  | succ k ih => exact crcT_lt ih
theorem Z6c {c b : Nat} (h : c < 4294967296) (hb : b < 256) : crcStep c b < 4294967296 :=
  crcIt_lt 8 (Nat.xor_lt_two_pow (n := 32) h (by omega))
theorem crcState_lt {c : Nat} (l : List UInt8) (h : c < 4294967296) : crcState c l < 4294967296 := by
  induction l generalizing c with
  | nil => exact h
  | cons b l ih => exact ih (Z6c h b.toNat_lt)
theorem crcSum_lt (l : List UInt8) : crcSum l < 4294967296 := Nat.xor_lt_two_pow (n := 32) (crcState_lt l (by decide)) (by decide)

theorem Z5h (c : Nat) (a b : List UInt8) : crcState c (a ++ b) = crcState (crcState c a) b := by simp [crcState]
open Go.RowKit

/-- Block b is a Writer that holds the bytes l; its buffer is block g (none: it has none yet). 'p': what the builder's 'addr' holds. -/
def WrP (w : World) (b : Nat) (g : Option Nat) (p : Value) (l : List UInt8) : Prop :=
  ∃ v, w.heap[b]? = some (.cells #[p, v] 132 (0, 0)) ∧ w.ownsRowF 0 5 1 v l.length (Lib.byteCells l) ∧ v.ownBlock = g
def Wr (w : World) (b : Nat) (g : Option Nat) (l : List UInt8) : Prop := WrP w b g (.pointer none) l ∨ WrP w b g (.pointer (some ⟨b, 0, none⟩)) l

/-- Of what was there nothing has turned but block b and its buffer g; the buffer is now g', the old one or a new one. -/
structure Wrote (w : World) (b : Nat) (g g' : Option Nat) (w' : World) : Prop where
  os : w'.os = w.os
  tape : w'.tape = w.tape
  output : w'.output = w.output
  size : w.heap.size ≤ w'.heap.size
  block : ∀ k, k < w.heap.size → k ≠ b → some k ≠ g → w'.heap[k]? = w.heap[k]?
  own : g' = g ∨ ∃ k, g' = some k ∧ w.heap.size ≤ k

theorem Wrote.refl (w : World) (b : Nat) (g : Option Nat) : Wrote w b g g w := ⟨rfl, rfl, rfl, Nat.le_refl _, fun _ _ _ _ => rfl, .inl rfl⟩
theorem Wrote.trans {a c d : World} {b : Nat} {g g' g'' : Option Nat} (h : Wrote a b g g' c) (k : Wrote c b g' g'' d) : Wrote a b g g'' d := by
  refine ⟨k.os.trans h.os, k.tape.trans h.tape, k.output.trans h.output, Nat.le_trans h.size k.size, fun i hi hb hg => ?_, ?_⟩
  · refine (k.block i (Nat.lt_of_lt_of_le hi h.size) hb ?_).trans (h.block i hi hb hg)
    rcases h.own with rfl | ⟨j, rfl, hj⟩
    · exact hg
    · intro e
      injection e with e
      omega
  · rcases k.own with rfl | ⟨j, rfl, hj⟩
    · exact h.own
    · exact .inr ⟨j, rfl, Nat.le_trans h.size hj⟩
theorem Wrote.drew {a c : World} {b : Nat} {g g' : Option Nat} (h : Wrote a b g g' c) : Wrote a b g g' c.drew := ⟨h.os, h.tape, h.output, h.size, h.block, h.own⟩
/-- Both the writer and its buffer lie from B on: below B nothing has turned. -/
theorem Wrote.below {A w w' : World} {B b : Nat} {g g' : Option Nat} (h : Wrote w b g g' w') (hA : Below B A w) (hB : B ≤ w.heap.size) (hb : B ≤ b) (hg : ∀ k, g = some k → B ≤ k) : Below B A w' :=
  hA.trans ⟨h.os, h.tape, h.output, h.size, fun k hk => h.block k (by omega) (by omega) (fun e => by have := hg k e.symm; omega)⟩
theorem Wrote.own_from {w w' : World} {B b : Nat} {g g' : Option Nat} (h : Wrote w b g g' w') (hB : B ≤ w.heap.size) (hg : ∀ k, g = some k → B ≤ k) : ∀ k, g' = some k → B ≤ k := by
  intro k hk
  rcases h.own with e | ⟨j, e, hj⟩
  · exact hg k (e ▸ hk)
  · rw [hk] at e; injection e with e; omega

theorem WrP.lt {w : World} {b : Nat} {g : Option Nat} {p : Value} {l : List UInt8} (h : WrP w b g p l) : b < w.heap.size := by
  obtain ⟨v, hb, _⟩ := h
  exact Blk.lt hb
theorem WrP.ne {w : World} {b : Nat} {g : Option Nat} {p : Value} {l : List UInt8} (h : WrP w b g p l) : g ≠ some b := by
  obtain ⟨v, hb, hown, rfl⟩ := h
  exact Lib.ownBlock_neF hown hb (by decide)
theorem WrP.own_lt {w : World} {b : Nat} {g : Option Nat} {p : Value} {l : List UInt8} (h : WrP w b g p l) : ∀ k, g = some k → k < w.heap.size := by
  obtain ⟨v, hb, hown, rfl⟩ := h
  exact fun k hk => (hown.lt k hk).2
/-- Kept where neither block has turned. -/
theorem WrP.keep {w w' : World} {b : Nat} {g : Option Nat} {p : Value} {l : List UInt8} (h : WrP w b g p l) (hb : w'.heap[b]? = w.heap[b]?) (hg : ∀ k, g = some k → w'.heap[k]? = w.heap[k]?) : WrP w' b g p l := by
  obtain ⟨v, h1, h2, h3⟩ := h
  refine ⟨v, hb.trans h1, ⟨h2.1, ?_⟩, h3⟩
  rcases h2.2 with hn | ⟨g', cap, cur, fz, rfl, hbg, hgg, rest⟩
  · exact .inl hn
  · exact .inr ⟨g', cap, cur, fz, rfl, hbg, (hg g' (by rw [← h3]; rfl)).trans hgg, rest⟩
theorem Wr.lt {w : World} {b : Nat} {g : Option Nat} {l : List UInt8} (h : Wr w b g l) : b < w.heap.size := h.elim WrP.lt WrP.lt
theorem Wr.ne {w : World} {b : Nat} {g : Option Nat} {l : List UInt8} (h : Wr w b g l) : g ≠ some b := h.elim WrP.ne WrP.ne
theorem Wr.own_lt {w : World} {b : Nat} {g : Option Nat} {l : List UInt8} (h : Wr w b g l) : ∀ k, g = some k → k < w.heap.size := h.elim WrP.own_lt WrP.own_lt
theorem Wr.keep {w w' : World} {b : Nat} {g : Option Nat} {l : List UInt8} (h : Wr w b g l) (hb : w'.heap[b]? = w.heap[b]?) (hg : ∀ k, g = some k → w'.heap[k]? = w.heap[k]?) : Wr w' b g l :=
  h.elim (fun h => .inl (h.keep hb hg)) (fun h => .inr (h.keep hb hg))
theorem Wr.drew {w : World} {b : Nat} {g : Option Nat} {l : List UInt8} (h : Wr w b g l) : Wr w.drew b g l := h
theorem Wr.alloc {w : World} {b : Nat} {g : Option Nat} {l : List UInt8} (h : Wr w b g l) (o : Obj) : Wr (w.alloc o) b g l :=
  h.keep (Below.heap_alloc w o b h.lt) (fun k hk => Below.heap_alloc w o k (h.own_lt k hk))
theorem Wr.below {w w' : World} {b : Nat} {g : Option Nat} {l : List UInt8} (h : Wr w b g l) (hb : Below w.heap.size w w') : Wr w' b g l :=
  h.keep (hb.block b h.lt) (fun k hk => hb.block k (h.own_lt k hk))
/-- Another writer's deed. -/
theorem Wr.other {w w' : World} {b b2 : Nat} {g g2 g3 : Option Nat} {l : List UInt8} (h : Wr w b g l) (k : Wrote w b2 g2 g3 w') (hb : b ≠ b2) (hg : g2 ≠ some b) (hb2 : g ≠ some b2) (hgg : g ≠ g2 ∨ g = none) : Wr w' b g l :=
  h.keep (k.block b h.lt hb (fun e => hg e.symm)) (fun j hj => k.block j (h.own_lt j hj) (fun e => hb2 (by rw [hj, e])) (fun e => by
    rcases hgg with hh | hh
    · exact hh (by rw [hj, e])
    · rw [hh] at hj; cases hj))
/-- A new, empty writer. -/
theorem Wr.new_ {w : World} {b : Nat} (hb : b = w.heap.size) : Wr (w.alloc (.cells #[.pointer none, .slice none 0 0] 132)) b none [] :=
  .inl ⟨.slice none 0 0, blk_new hb, ⟨rfl, .inl ⟨rfl, rfl⟩⟩, rfl⟩

theorem sizeB : (Tryz.prog.info? 130).map (·.size) = some 2 := by kernel_rfl
theorem liesB : liesAt Tryz.prog Tryz.prog.depth 132 (2 / Tryz.prog.cellsOf 132) 0 130 1 = true := by kernel_rfl
theorem infoByte : (Tryz.prog.info? 5).map (fun i => (i.zero, i.size, i.bytes)) = some (some (.int .u8 0), 1, 1) := by kernel_rfl
theorem cellsByte : Tryz.prog.cellsOf 5 = 1 := by kernel_rfl

set_option maxHeartbeats 1000000 in
set_option maxRecDepth 100000 in
theorem Z5n (b : Nat) (w : World) (h0 : w.cell? ⟨b, 0, none⟩ = some (.pointer (some ⟨b, 0, none⟩))) :
    Calls Tryz.prog 112 #[.pointer (some ⟨b, 0, none⟩)] w fun e w' => e = .returned (.tuple #[]) ∧ w' = w := by
  obtain ⟨j, hj, _⟩ := Option.map_eq_some_iff.1 sizeB
  go_enter Tryz.func112, Tryz.ntmps112
  go_wp2
  rw [Lib.run_neq_ptr_same w _ Tryz.underlying128 hj]
  go_wp2
  go_end0
  exact ⟨rfl, rfl⟩

set_option maxHeartbeats 1000000 in
set_option maxRecDepth 100000 in
theorem Z5j (b : Nat) (w : World) (h0 : w.cell? ⟨b, 0, none⟩ = some (.pointer none)) (hsh : w.shape? b = some (132, 2)) (hfz : w.frozen? ⟨b, 0, none⟩ = false) :
    Calls Tryz.prog 112 #[.pointer (some ⟨b, 0, none⟩)] w fun e w' => e = .returned (.tuple #[]) ∧ w' = w.setCell ⟨b, 0, none⟩ (.pointer (some ⟨b, 0, none⟩)) := by
  obtain ⟨j, hj, hjs⟩ := Option.map_eq_some_iff.1 sizeB
  go_enter Tryz.func112, Tryz.ntmps112
  go_wp2
  rw [Lib.run_to_unsafe w ⟨b, 0, none⟩ Tryz.underlying128 Tryz.underlying176 hj (by rw [hjs]; decide) hsh (Nat.zero_lt_succ 1)]
  simp only [Result.andThen]
  rw [Oper.upon_value]
  go_wp2
  rw [run_callFunc_extern Tryz.func124 (by kernel_rfl) (by kernel_rfl) (by kernel_rfl) (e := Extern.AbiNoEscape.same) (by kernel_rfl)]
  rw [Lib.run_noEscape]
  simp only [Result.andThen]
  rw [Oper.upon_value]
  go_wp2
  rw [Lib.run_from_unsafe w ⟨b, 0, none⟩ Tryz.underlying176 Tryz.underlying128 hj hsh liesB]
  simp only [Result.andThen]
  rw [Oper.upon_value]
  go_wp2
  go_end0
  exact ⟨rfl, rfl⟩

theorem wrote_set {w : World} {b : Nat} {g : Option Nat} (i : Nat) (u : Value) : Wrote w b g g (w.setCell ⟨b, i, none⟩ u) :=
  ⟨rfl, rfl, rfl, by simp [World.setCell], fun k _ hk _ => Below.heap_setCell _ _ _ _ hk, .inl rfl⟩

theorem Z3o (b : Nat) (g : Option Nat) (l : List UInt8) (w : World) (h : Wr w b g l) :
    Calls Tryz.prog 112 #[.pointer (some ⟨b, 0, none⟩)] w fun e w' => e = .returned (.tuple #[]) ∧ WrP w' b g (.pointer (some ⟨b, 0, none⟩)) l ∧ Wrote w b g g w' := by
  rcases h with h | h
  · have hne := h.ne
    have h' := h
    obtain ⟨v, hb, hown, hg⟩ := h
    refine (Z5j b w (Blk.cell hb 0) (by simp [World.shape?, hb]) (Blk.frozen hb 0)).mono ?_
    rintro e w' ⟨rfl, rfl⟩
    refine ⟨rfl, ⟨v, Blk.set_ hb 0 _, ?_, hg⟩, wrote_set 0 _⟩
    refine hown.kept (row := some b) ⟨rfl, rfl, rfl, by simp [World.setCell], fun k _ hk => Below.heap_setCell _ _ _ _ (fun e => hk (by simp [e]))⟩ (.inr (by rw [hg]; exact hne))
  · have h' := h
    obtain ⟨v, hb, hown, hg⟩ := h
    refine (Z5n b w (Blk.cell hb 0)).mono ?_
    rintro e w' ⟨rfl, rfl⟩
    exact ⟨rfl, h', Wrote.refl _ _ _⟩

theorem Z4i (a b : List UInt8) : Lib.byteCells (a ++ b) = Lib.byteCells a ++ Lib.byteCells b := by simp [Lib.byteCells]

/-- Behind an append the new buffer is stored into the writer. -/
theorem wr_store {w1 w2 : World} {b : Nat} {g : Option Nat} {v v' p : Value} {l' : List UInt8} (hb : w1.heap[b]? = some (.cells #[p, v] 132 (0, 0))) (hv : v.ownBlock = g) (hne : g ≠ some b)
    (hown : w2.ownsRowF 0 5 1 v' l'.length (Lib.byteCells l')) (hgrow : w1.grownBy w2 v.ownBlock) (hf : v'.ownBlock = v.ownBlock ∨ ∃ k, v'.ownBlock = some k ∧ w1.heap.size ≤ k) :
    WrP (w2.setCell ⟨b, 1, none⟩ v') b v'.ownBlock p l' ∧ Wrote w1 b g v'.ownBlock (w2.setCell ⟨b, 1, none⟩ v') := by
  have hlt : b < w1.heap.size := Blk.lt hb
  have hb2 : w2.heap[b]? = some (.cells #[p, v] 132 (0, 0)) := (hgrow.block b hlt (fun e => hne (by rw [← hv, e]))).trans hb
  have hne' : v'.ownBlock ≠ some b := Lib.ownBlock_neF hown hb2 (by decide)
  refine ⟨⟨v', Blk.set_ hb2 1 v', ?_, rfl⟩, ⟨hgrow.os, hgrow.tape, hgrow.output, by simpa [World.setCell] using hgrow.size, fun k hk hkb hkg => ?_, ?_⟩⟩
  · exact hown.kept (row := some b) ⟨rfl, rfl, rfl, by simp [World.setCell], fun k _ hk => Below.heap_setCell _ _ _ _ (fun e => hk (by simp [e]))⟩ (.inr hne')
  · exact (Below.heap_setCell _ _ _ _ hkb).trans (hgrow.block k hk (by rw [hv]; exact hkg))
  · rw [hv] at hf
    exact hf

set_option maxHeartbeats 2000000 in
set_option maxRecDepth 100000 in
theorem Z2k (b : Nat) (g : Option Nat) (l : List UInt8) (s : ByteArray) (w : World) (h : Wr w b g l) (hlen : l.length + s.size ≤ 140737488355328) :
    Calls Tryz.prog 84 #[.pointer (some ⟨b, 0, none⟩), .string s] w fun e w' => e = .returned (.tuple #[.int .i64 s.size, .nilIface]) ∧ ∃ g', WrP w' b g' (.pointer (some ⟨b, 0, none⟩)) (l ++ s.data.toList) ∧ Wrote w b g g' w' := by
  obtain ⟨i0, hi, hz0, hz1, hz2⟩ := info_parts infoByte
  have hne := h.ne
  go_enter Tryz.func84, Tryz.ntmps84
  go_wp2_with fail
  refine (Z3o b g l _ h).mono ?_
  rintro e w1 ⟨rfl, h1, k1⟩
  obtain ⟨v, hbk, hown, hg⟩ := h1
  have Hg := Lib.hid hg
  clear hg
  have c0 : w1.cell? ⟨b, 0, none⟩ = some (.pointer (some ⟨b, 0, none⟩)) := Blk.cell hbk 0
  have c1 : w1.cell? ⟨b, 1, none⟩ = some v := Blk.cell hbk 1
  go_wp2_with (at_builtin; refine Z35 _ rfl _ _ 81 9 rfl 0 5 i0 Tryz.underlying81 Tryz.underlying9 hi hz0 hz1 hz2 _ _ _ rfl hown s rfl ?c3 ?c4 ?c5 ?_)
  case c3 => unfold maxLen; omega
  case c4 => omega
  case c5 => omega
  intro v' w2 hown' hgrow hfr
  rw [show Lib.strCells s = Lib.byteCells s.data.toList from rfl, ← Z4i] at hown'
  have hown2 : w2.ownsRowF 0 5 1 v' (l ++ s.data.toList).length (Lib.byteCells (l ++ s.data.toList)) := by simpa using hown'
  have hb2 : w2.heap[b]? = some (.cells #[.pointer (some ⟨b, 0, none⟩), v] 132 (0, 0)) := (hgrow.block b (Blk.lt hbk) (fun e => hne (by rw [← Hg.out, e]))).trans hbk
  have d1 : w2.cell? ⟨b, 1, none⟩ = some v := Blk.cell hb2 1
  have f1 : w2.frozen? ⟨b, 1, none⟩ = false := Blk.frozen hb2 1
  obtain ⟨k2, k3⟩ := wr_store hbk Hg.out hne hown2 hgrow hfr
  have hex : ∃ ao n' cap, v' = .slice ao n' cap := by
    rcases hown'.2 with ⟨hv, _⟩ | ⟨g, cap, cur, fz, hv, _⟩
    · exact ⟨_, _, _, hv⟩
    · exact ⟨_, _, _, hv⟩
  obtain ⟨ao, n', cap, rfl⟩ := hex
  clear hown' hown2 hgrow hfr hown
  have K2 := Lib.hid k2
  have K3 := Lib.hid (k1.trans k3)
  clear k1 k2 k3
  go_wp2
  go_ret2
  exact ⟨rfl, _, K2.out, K3.out⟩

set_option maxHeartbeats 2000000 in
set_option maxRecDepth 100000 in
theorem Z6h (b : Nat) (g : Option Nat) (l : List UInt8) (c : UInt8) (w : World) (h : Wr w b g l) (hlen : l.length + 1 ≤ 140737488355328) :
    Calls Tryz.prog 106 #[.pointer (some ⟨b, 0, none⟩), .int .u8 c.toNat] w fun e w' => e = .returned .nilIface ∧ ∃ g', WrP w' b g' (.pointer (some ⟨b, 0, none⟩)) (l ++ [c]) ∧ Wrote w b g g' w' := by
  obtain ⟨i0, hi, hz0, hz1, hz2⟩ := info_parts infoByte
  have hne := h.ne
  go_enter Tryz.func106, Tryz.ntmps106
  go_wp2_with fail
  refine (Z3o b g l _ h).mono ?_
  rintro e w1 ⟨rfl, h1, k1⟩
  obtain ⟨v, hbk, hown, hg⟩ := h1
  have Hg := Lib.hid hg
  clear hg
  have c0 : w1.cell? ⟨b, 0, none⟩ = some (.pointer (some ⟨b, 0, none⟩)) := Blk.cell hbk 0
  have c1 : w1.cell? ⟨b, 1, none⟩ = some v := Blk.cell hbk 1
  go_wp2_with (at_builtin; refine Z75 _ rfl _ _ 81 rfl 0 5 i0 (.int .u8 0) 1 1 Tryz.underlying81 hi hz0 hz1 hz2 rfl (by decide) _ _ _ rfl (hown.alloc _) ⟨w1.heap.size, 0, none⟩ 1 1 [.int .u8 c.toNat] rfl rfl ?c1 ?c2 ?c3 ?c4 ?c5 ?_)
  case c1 =>
    intro j u hj
    match j, hj with
    | 0, hj => simp at hj; subst hj; simp [Addr.add]
  case c2 => intro u hu; simp at hu; subst hu; rfl
  case c3 => unfold maxLen; omega
  case c4 => omega
  case c5 => simp
  intro v' w2 hown' hgrow hfr
  have hown2 : w2.ownsRowF 0 5 1 v' (l ++ [c]).length (Lib.byteCells (l ++ [c])) := by simpa [Lib.byteCells] using hown'
  have hgrow' : w1.grownBy w2 v.ownBlock := ⟨hgrow.os, hgrow.tape, hgrow.output, by have := hgrow.size; (try simp at this); omega, fun k hk hne => (hgrow.block k (by (try simp); omega) hne).trans (Below.heap_alloc w1 _ k hk)⟩
  have hfr' : v'.ownBlock = v.ownBlock ∨ ∃ k, v'.ownBlock = some k ∧ w1.heap.size ≤ k := by
    rcases hfr with e | ⟨k, e, hk⟩
    · exact .inl e
    · exact .inr ⟨k, e, by (try simp at hk); omega⟩
  have hb2 : w2.heap[b]? = some (.cells #[.pointer (some ⟨b, 0, none⟩), v] 132 (0, 0)) := (hgrow'.block b (Blk.lt hbk) (fun e => hne (by rw [← Hg.out, e]))).trans hbk
  have d1 : w2.cell? ⟨b, 1, none⟩ = some v := Blk.cell hb2 1
  have f1 : w2.frozen? ⟨b, 1, none⟩ = false := Blk.frozen hb2 1
  obtain ⟨k2, k3⟩ := wr_store hbk Hg.out hne hown2 hgrow' hfr'
  have hex : ∃ ao n' cap, v' = .slice ao n' cap := by
    rcases hown'.2 with ⟨hv, _⟩ | ⟨g, cap, cur, fz, hv, _⟩
    · exact ⟨_, _, _, hv⟩
    · exact ⟨_, _, _, hv⟩
  obtain ⟨ao, n', cap, rfl⟩ := hex
  clear hown' hown2 hgrow hgrow' hfr hfr' hown
  have K2 := Lib.hid k2
  have K3 := Lib.hid (k1.trans k3)
  clear k1 k2 k3
  go_wp2
  go_ret
  exact ⟨rfl, _, K2.out, K3.out⟩

theorem Z47 {w : World} {b k : Nat} (n : Nat) : Wrote w b (some k) (some k) (w.freeze ⟨k, 0, none⟩ n) := by
  unfold World.freeze
  split
  · exact Wrote.refl _ _ _
  · exact ⟨rfl, rfl, rfl, by simp, fun i _ _ hi => by
      simp only [Array.getElem?_modify]
      rw [if_neg (fun e => hi (by rw [e]))], .inl rfl⟩

/-- String of a writer that holds at least one byte. -/
theorem Z4w (b : Nat) (g : Option Nat) (l : List UInt8) (w : World) (h : Wr w b g l) (h0 : l ≠ []) :
    Calls Tryz.prog 86 #[.pointer (some ⟨b, 0, none⟩)] w fun e w' => e = .returned (.string ⟨l.toArray⟩) ∧ Wr w' b g l ∧ Wrote w b g g w' := by
  obtain ⟨p, hp, v, hbk, hown, hg⟩ : ∃ p, (p = .pointer none ∨ p = .pointer (some ⟨b, 0, none⟩)) ∧ WrP w b g p l := by
    rcases h with h | h
    · exact ⟨_, .inl rfl, h⟩
    · exact ⟨_, .inr rfl, h⟩
  have hne := h.ne
  have hl0 : l.length ≠ 0 := by simpa using h0
  obtain ⟨k, cap, cur, fz, rfl, _, hk, hfz, hnc, hcm, hcs, htake⟩ : ∃ k cap cur fz, v = .slice (some ⟨k, 0, none⟩) l.length cap ∧ 0 ≤ k ∧ w.heap[k]? = some (.cells cur 5 fz) ∧ fz.2 ≤ l.length * 1 ∧ l.length ≤ cap ∧ cap ≤ maxLen ∧ cur.size = cap * 1 ∧ cur.toList.take (l.length * 1) = Lib.byteCells l := by
    rcases hown.2 with ⟨_, hz⟩ | ⟨g, cap, cur, fz, hv, r⟩
    · exact absurd hz hl0
    · exact ⟨g, cap, cur, fz, hv, r⟩
  have c1 : w.drew.cell? ⟨b, 1, none⟩ = some (.slice (some ⟨k, 0, none⟩) l.length cap) := Blk.cell (w := w.drew) hbk 1
  have hSD : (Builtin.unsafeSliceData_ #[81] 167 #[.slice (some ⟨k, 0, none⟩) l.length cap]).run Tryz.prog w.drew = .ok (.pointer (some ⟨k, 0, none⟩)) w.drew :=
    Lib.run_unsafeSliceData_row _ _ _ _ _ _ (by omega)
  have hUS : (Builtin.unsafeString_ #[167, 3] 9 #[.pointer (some ⟨k, 0, none⟩), .int .i64 l.length]).run Tryz.prog w.drew = .ok (.string ⟨l.toArray⟩) (w.drew.freeze ⟨k, 0, none⟩ l.length) := by
    refine Lib.run_unsafeString_row w.drew 167 3 9 5 Tryz.underlying167 cellsByte k cur.size (by have hg' : w.drew.heap[k]? = some (.cells cur 5 fz) := hk; simp [World.shape?, hg']) l h0 (by omega) (by unfold maxLen at hcm; omega) ?_
    intro j x hx
    have := hown.cells (g := k) rfl j (.int .u8 x.toNat) (by simp [Lib.byteCells, hx])
    exact this
  have hg' : g = some k := by rw [← hg]; rfl
  have hkeep : Wr (w.drew.freeze ⟨k, 0, none⟩ l.length) b g l := by
    have hA : Lib.BuilderAtF 132 5 0 b p (Lib.byteCells l) w.drew := ⟨Nat.zero_le _, _, hbk, by rw [Lib.byteCells_length]; exact hown, by rw [hg]; exact hne⟩
    have hF := hA.froze (g := k) (cap := cap) (by rw [Lib.byteCells_length]; exact c1)
    rw [Lib.byteCells_length] at hF
    obtain ⟨_, v, x1, x2, _⟩ := hF
    have hv : v = .slice (some ⟨k, 0, none⟩) l.length cap := by
      have y := Blk.cell (w := w.drew.freeze ⟨k, 0, none⟩ l.length) x1 1
      have hbb : (w.drew.freeze ⟨k, 0, none⟩ l.length).heap[b]? = w.heap[b]? := (Z47 (w := w.drew) (b := k) (k := k) l.length).block b (by have := h.lt; simpa using this) (fun e => hne (by rw [hg', e])) (fun e => hne (by rw [hg', ← e]))
      rw [hbb, hbk] at x1
      injection x1 with x1
      injection x1 with x1
      simp at x1
      exact x1.symm
    subst hv
    rw [Lib.byteCells_length] at x2
    rcases hp with rfl | rfl
    · exact .inl ⟨_, x1, x2, hg⟩
    · exact .inr ⟨_, x1, x2, hg⟩
  have hW : Wrote w b g g (w.drew.freeze ⟨k, 0, none⟩ l.length) := by
    rw [hg']
    exact (Wrote.refl w b (some k)).drew.trans (Z47 _)
  have HK := Lib.hid hkeep
  have HW := Lib.hid hW
  clear hkeep hW hg hg'
  go_enter Tryz.func86, Tryz.ntmps86
  go_wp2
  go_region
  all_goals (go_wp2; go_ret; exact ⟨rfl, HK.out, HW.out⟩)

def clampSize (n : Int) : Nat := (min (max n 1) 8).toNat

theorem u8_of (m : Nat) : IntKind.u8.wrap (m : Int) = ((UInt8.ofNat m).toNat : Int) := by
  simp [IntKind.wrap, IntKind.bits, IntKind.signed]

theorem Z76 (n : Int) (w : World) : Calls Tryz.prog 105 #[.int .i64 n] w fun e w' => e = .returned (.int .i64 (clampSize n)) ∧ w = w' := by
  go_enter Tryz.func105, Tryz.ntmps105
  by_cases h0 : n < 1
  · go_wp2
    all_goals
      go_ret
      exact ⟨Z41 (by unfold clampSize; omega), rfl⟩
  · by_cases h8 : 8 < n
    · go_wp2
      all_goals
        go_ret
        exact ⟨Z41 (by unfold clampSize; omega), rfl⟩
    · go_wp2
      all_goals
        go_ret
        exact ⟨Z41 (by unfold clampSize; omega), rfl⟩

theorem text_any (b : Nat) (g : Option Nat) (l : List UInt8) (s : ByteArray) (w : World) (h : Wr w b g l) (hlen : l.length + s.size ≤ 140737488355328) :
    Calls Tryz.prog 107 #[.pointer (some ⟨b, 0, none⟩), .string s] w fun e w' => e = .returned (.tuple #[]) ∧ ∃ g', Wr w' b g' (l ++ s.data.toList) ∧ Wrote w b g g' w' := by
  go_enter Tryz.func107, Tryz.ntmps107
  go_wp2_with fail
  refine (Z2k b g l s _ h hlen).mono ?_
  rintro e w1 ⟨rfl, g1, h1, k1⟩
  go_wp2_with fail
  go_end0
  exact ⟨rfl, g1, .inr h1, k1⟩

theorem Z4e (b : Nat) (g : Option Nat) (l : List UInt8) (w : World) (h : Wr w b g l) (h0 : l ≠ []) :
    Calls Tryz.prog 77 #[.pointer (some ⟨b, 0, none⟩)] w fun e w' => e = .returned (.string ⟨l.toArray⟩) ∧ Wr w' b g l ∧ Wrote w b g g w' := by
  go_enter Tryz.func77, Tryz.ntmps77
  go_wp2_with fail
  refine (Z4w b g l _ h h0).mono ?_
  rintro e w1 ⟨rfl, h1, k1⟩
  go_wp2_with fail
  go_ret
  exact ⟨rfl, h1, k1⟩

set_option maxHeartbeats 1000000 in
theorem put_any (b : Nat) (g : Option Nat) (l : List UInt8) (n : Nat) (size : Int) (w : World) (hn : n < 18446744073709551616) (h : Wr w b g l) (hlen : l.length + 8 ≤ 140737488355328) :
    Calls Tryz.prog 75 #[.pointer (some ⟨b, 0, none⟩), .int .u64 n, .int .i64 size] w fun e w' => e = .returned (.tuple #[]) ∧ ∃ g', Wr w' b g' (l ++ le n (clampSize size)) ∧ Wrote w b g g' w' := by
  have hk8 : clampSize size ≤ 8 := by unfold clampSize; omega
  go_enter Tryz.func75, Tryz.ntmps75
  go_wp2_with fail
  refine (Z76 _ _).mono ?_
  rintro e w1 ⟨rfl, rfl⟩
  generalize hk : clampSize size = k at hk8 ⊢
  have Hk := Lib.hid hk
  clear hk
  go_wp2_with fail
  go_loopw [1, 10] (fun m i wr => ∃ (j M : Nat) (gj : Option Nat), j ≤ k ∧ m = .int .u64 M ∧ i = .int .i64 j ∧ Hid (M = n / 256 ^ j) ∧ M < 18446744073709551616 ∧ Wr wr b gj (l ++ le n j) ∧ Wrote w b g gj wr) (fun _ i _ => k - (intOf i).toNat)
  case atStart => exact ⟨0, n, g, by omega, rfl, rfl, by simp [Hid], hn, by simpa [le] using h, Wrote.refl _ _ _⟩
  case round =>
    obtain ⟨j, M, gj, hj, rfl, rfl, hM, hM1, hW, hR⟩ := hrel
    clear h
    by_cases hlt : j < k
    · have e1 := u8_of M
      go_wp2_with fail
      refine (Z6h b gj (l ++ le n j) (UInt8.ofNat M) _ hW (by rw [List.length_append, Z0i]; omega)).mono ?_
      rintro e w2 ⟨rfl, g2, h2, k2⟩
      clear e1
      go_wp2_with fail
      go_roundw
      case rel =>
        refine ⟨j + 1, M / 256, g2, by omega, by go_num, by go_num, ?_, by omega, ?_, hR.trans k2⟩
        · show M / 256 = n / 256 ^ (j + 1)
          rw [hM.out, Nat.div_div_eq_div_mul, Nat.pow_succ]
        · rw [le, ← List.append_assoc, ← hM.out]
          exact .inr h2
      case measure => simp [intOf]; omega
    · obtain rfl : j = k := by omega
      go_wp2_with fail
      go_end0
      exact ⟨rfl, gj, by rw [Hk.out]; exact hW, hR⟩

/-- '[]byte(s)': a new block of the bytes. -/
theorem Z6d (s : ByteArray) (w : World) (hs : s.size ≤ maxLen) : ∃ (C : Array Value) (c : Nat) (fz : Nat × Nat),
    (convert 9 81 (.string s)).run Tryz.prog w = .ok (.slice (some ⟨w.heap.size, 0, none⟩) s.size c) (w.drew.alloc (.cells C 5 fz)) ∧
    (∀ i, C[i]? = if i < s.size then some (.int .u8 ((s.data.toList.getD i 0).toNat : Int)) else if i < c then some (.int .u8 0) else none) ∧ s.size ≤ c ∧ c ≤ maxLen ∧ C.size = c ∧ fz = (c, c + 1) := by
  have hge := grownCap_ge w s.size 0 5
  have hle := grownCap_le_maxLen w s.size 0 5 hs
  have hsz : (bytesRow s (grownCap w s.size 0 5)).size = grownCap w s.size 0 5 := by
    simp only [bytesRow, Array.size_append, Array.size_map, Array.size_replicate]
    have : s.data.size = s.size := rfl
    omega
  refine ⟨_, _, _, run_bytes_of_string w 9 81 5 s Tryz.underlying9 Tryz.underlying81 Tryz.underlying5, fun i => ?_, hge, hle, hsz, by rw [hsz]⟩
  have hd : s.data.size = s.size := rfl
  by_cases hi : i < s.size
  · rw [if_pos hi, bytesRow_at s _ i (by omega)]
    congr 3
    simp [List.getD, Array.getElem?_toList, hd, hi]
  · rw [if_neg hi]
    by_cases hc : i < grownCap w s.size 0 5
    · rw [if_pos hc]
      simp only [bytesRow]
      rw [Array.getElem?_append_right (by simp only [Array.size_map]; omega), Array.getElem?_replicate, if_pos (by simp only [Array.size_map]; omega)]
    · rw [if_neg hc]
      exact Array.getElem?_eq_none (by omega)

/-- 'string(b)': of a row whose cells are the bytes l. -/
theorem Z5k (w : World) (g off cap : Nat) (l : List UInt8) (n : Nat) (hn : l.length = n) (h : ∀ i, i < n → w.cell? ⟨g, off + i, none⟩ = some (.int .u8 ((l.getD i 0).toNat : Int))) :
    (convert 81 9 (.slice (some ⟨g, off, none⟩) n cap)).run Tryz.prog w = .ok (.string ⟨l.toArray⟩) w := by
  have hr := run_convert_bytes_arg (P := Tryz.prog) w 81 5 Tryz.underlying81 Tryz.underlying5 g off n cap (l.map fun b => (b.toNat : Int)) (by simpa using hn) (fun i hi => by
    have hil : i < l.length := by omega
    rw [h i hi]
    simp [List.getD, hil]) 9 Tryz.underlying9
  have hst : strOfNums (l.map fun b => (b.toNat : Int)) = ⟨l.toArray⟩ := by
    simp [strOfNums, List.map_map, Function.comp_def]
  rw [hr, hst]

theorem and1_u32 (c : Nat) (h : c < 4294967296) : bits .and .u32 (c : Int) 1 = ((c % 2 : Nat) : Int) := by
  have := u32_and_nat c 1 h (by decide)
  rw [Nat.and_one_is_mod] at this
  exact this
theorem Z7z (c d : Nat) (h : c < 4294967296) (hd : d < 4294967296) : bits .xor .u32 (c : Int) (d : Int) = ((c ^^^ d : Nat) : Int) := u32_xor_nat c d h hd

set_option maxHeartbeats 1000000 in
theorem step_any (c : Nat) (b : UInt8) (w : World) (hc : c < 4294967296) : Calls Tryz.prog 123 #[.int .u32 c, .int .u8 b.toNat] w fun e w' => e = .returned (.int .u32 (crcStep c b.toNat)) ∧ w = w' := by
  have hb := b.toNat_lt
  have e0 := Z7z c b.toNat hc (by omega)
  have hx : c ^^^ b.toNat < 4294967296 := Nat.xor_lt_two_pow (n := 32) hc (by omega)
  go_enter Tryz.func123, Tryz.ntmps123
  go_wp2_with fail
  go_loop [0, 9] (fun x i => ∃ (k X : Nat), k ≤ 8 ∧ i = .int .i64 k ∧ x = .int .u32 X ∧ X < 4294967296 ∧ Hid (X = crcIt k (c ^^^ b.toNat))) (fun _ i => 8 - (intOf i).toNat)
  case atStart => exact ⟨0, _, by omega, rfl, rfl, hx, rfl⟩
  case round =>
    obtain ⟨k, X, hk, rfl, rfl, hX, HX⟩ := hrel
    clear e0 hx
    by_cases hlt : k < 8
    · have e1 : bits .and .u32 (X : Int) 1 = (X : Int) % 2 := (and1_u32 X hX).trans (by omega)
      by_cases hp : X % 2 = 1
      · have e4 : ((X : Int) % 2 == 1) = true := by simp; omega
        obtain ⟨Y, hY⟩ : ∃ Y, Y = (X / 2) ^^^ 2197175160 := ⟨_, rfl⟩
        have hY1 : Y < 4294967296 := by rw [hY]; exact Nat.xor_lt_two_pow (n := 32) (by omega) (by decide)
        have e2 : bits .xor .u32 ((X : Int) / 2) 2197175160 = (Y : Int) := by
          rw [hY, ← Z7z (X / 2) 2197175160 (by omega) (by decide), show ((X / 2 : Nat) : Int) = (X : Int) / 2 by omega]
          rfl
        have HY := Lib.hid hY
        clear hY
        go_wp2_with fail
        go_round
        case rel =>
          refine ⟨k + 1, Y, by omega, by go_num, rfl, hY1, ?_⟩
          show Y = crcT (crcIt k (c ^^^ b.toNat))
          rw [← HX.out, crcT, if_pos hp, HY.out]
        case measure => simp [intOf]; omega
      · have e4 : ((X : Int) % 2 == 1) = false := by simp; omega
        go_wp2_with fail
        go_round
        case rel =>
          refine ⟨k + 1, X / 2, by omega, by go_num, by go_num, by omega, ?_⟩
          show X / 2 = crcT (crcIt k (c ^^^ b.toNat))
          rw [← HX.out, crcT, if_neg hp]
        case measure => simp [intOf]; omega
    · obtain rfl : k = 8 := by omega
      go_wp2_with fail
      go_ret
      exact ⟨Z41 (by rw [HX.out]; rfl), rfl⟩

theorem crc_snoc (s : ByteArray) (k : Nat) (h : k < s.size) : crcState 4294967295 (s.data.toList.take (k + 1)) = crcStep (crcState 4294967295 (s.data.toList.take k)) (s.data.toList.getD k 0).toNat := by
  have hl : k < s.data.toList.length := by simpa using h
  rw [List.take_succ_eq_append_getElem hl, Z5h]
  simp only [crcState, List.foldl_cons, List.foldl_nil, List.getD, List.getElem?_eq_getElem hl, Option.getD_some]

set_option maxRecDepth 10000 in
set_option maxHeartbeats 1000000 in
theorem sum_any (s : ByteArray) (w : World) (hs : s.size ≤ 140737488355328) :
    Calls Tryz.prog 108 #[.string s] w fun e w' => e = .returned (.int .u32 (crcSum s.data.toList)) ∧ Below w.heap.size w w' := by
  obtain ⟨C, c, fz, hcv, hC, hc1, hc2, hc3, hfz⟩ := Z6d s w (by unfold maxLen; omega)
  have hCell : ∀ i, i < s.size → (w.alloc (.cells C 5 fz)).cell? ⟨w.heap.size, i, none⟩ = some (.int .u8 ((s.data.toList.getD i 0).toNat : Int)) := by
    intro i hi
    have := (cell_of_row (w.alloc (.cells C 5 fz)) w.heap.size i C 5 fz (heap_alloc_new w _)).trans (hC i)
    rw [this, if_pos hi]
  have HC := Lib.hid hCell
  clear hC hc3 hfz hCell
  go_enter Tryz.func108, Tryz.ntmps108
  go_wp2_with fail
  go_loop [3, 5, 9] (fun x _ i => ∃ (k X : Nat), k ≤ s.size ∧ i = .int .i64 k ∧ x = .int .u32 X ∧ X < 4294967296 ∧ Hid (X = crcState 4294967295 (s.data.toList.take k))) (fun _ _ i => s.size - (intOf i).toNat)
  case atStart => exact ⟨0, 4294967295, by omega, rfl, rfl, by omega, by simp [Hid, crcState]⟩
  case round =>
    obtain ⟨k, X, hk, rfl, rfl, hX, HX⟩ := hrel
    by_cases hlt : k < s.size
    · have hcell := HC.out k hlt
      have HS := Lib.hid (crc_snoc s k hlt)
      generalize s.data.toList.getD k 0 = b at hcell HS
      go_wp2_with fail
      refine (step_any X b _ hX).mono ?_
      rintro e w1 ⟨rfl, rfl⟩
      go_wp2_with fail
      go_round
      case rel => exact ⟨k + 1, crcStep X b.toNat, by omega, by go_num, rfl, Z6c hX b.toNat_lt, by show _ = _; rw [HS.out, HX.out]⟩
      case measure => simp [intOf]; omega
    · obtain rfl : k = s.size := by omega
      have e1 : bits .xor .u32 (X : Int) 4294967295 = ((crcSum s.data.toList : Nat) : Int) := by
        have h1 := Z7z X 4294967295 hX (by decide)
        have h2 : X ^^^ 4294967295 = crcSum s.data.toList := by
          rw [HX.out, List.take_of_length_le (by simp)]; rfl
        rw [h2] at h1
        exact h1
      generalize hZ : crcSum s.data.toList = Z at e1 ⊢
      have HZ := Lib.hid hZ
      clear hZ
      go_wp2_with fail
      go_ret
      exact ⟨Z41 (by rw [HZ.out]), by (repeat (first | with_reducible exact Below.refl _ _ | with_reducible assumption | with_reducible apply Below.drew | with_reducible apply Z0g | (with_reducible refine Z0n ?_ ?_; focus ((try simp); (try omega); done)) | (with_reducible refine Z0o ?_ ?_; focus ((try simp); (try omega); done))))⟩

def sealL (l : List UInt8) : List UInt8 := l ++ le (crcSum l) 4
theorem Z1t (l : List UInt8) : (sealL l).length = l.length + 4 := by simp [sealL, Z0i]

theorem wr_range {w w' : World} {b : Nat} {g g' : Option Nat} (h : Wrote w b g g' w') (hA : ∀ k, g = some k → b ≤ k) (hb : b ≤ w.heap.size) : ∀ k, g' = some k → b ≤ k := h.own_from hb hA

set_option maxHeartbeats 1000000 in
theorem Z6n (s : ByteArray) (w : World) (hs : s.size ≤ 1099511627776) :
    Calls Tryz.prog 76 #[.string s] w fun e w' => e = .returned (.string ⟨(sealL s.data.toList).toArray⟩) ∧ Below w.heap.size w w' := by
  have hsz : s.data.toList.length = s.size := by simp
  have Hsz := Lib.hid hsz
  clear hsz
  go_enter Tryz.func76, Tryz.ntmps76
  go_wp2_with fail
  have h0 : Wr (w.alloc (.cells #[.pointer none, .slice none 0 0] 132)) w.heap.size none [] := Wr.new_ rfl
  have b0 : Below w.heap.size w (w.alloc (.cells #[.pointer none, .slice none 0 0] 132)) := by (repeat (first | with_reducible exact Below.refl _ _ | with_reducible assumption | with_reducible apply Below.drew | with_reducible apply Z0g | (with_reducible refine Z0n ?_ ?_; focus ((try simp); (try omega); done)) | (with_reducible refine Z0o ?_ ?_; focus ((try simp); (try omega); done))))
  refine (text_any w.heap.size none [] s _ h0 (by simp; omega)).mono ?_
  rintro e w1 ⟨rfl, g1, h1, k1⟩
  have r1 := wr_range k1 (fun k e => by cases e) (by simp)
  have b1 := k1.below b0 (by simp) (Nat.le_refl _) (fun k e => by cases e)
  have z1 := b1.size
  clear h0 b0 k1
  go_wp2_with fail
  refine (sum_any s _ (by omega)).mono ?_
  rintro e w2 ⟨rfl, hb2⟩
  have h2 := h1.below hb2
  have b2 : Below w.heap.size w w2 := b1.trans (hb2.mono z1)
  have z2 := b2.size
  clear h1 b1 hb2 z1
  have hlt := crcSum_lt s.data.toList
  generalize hZ : crcSum s.data.toList = Z at hlt ⊢
  have HZ := Lib.hid hZ
  clear hZ
  go_wp2_with fail
  refine (put_any w.heap.size g1 _ Z 4 _ (by omega) h2 (by rw [List.nil_append, Hsz.out]; omega)).mono ?_
  rintro e w3 ⟨rfl, g3, h3, k3⟩
  have r3 := wr_range k3 r1 z2
  have b3 := k3.below b2 z2 (Nat.le_refl _) r1
  have z3 := b3.size
  clear h2 k3 b2 z2
  have hne : [] ++ s.data.toList ++ le Z (clampSize 4) ≠ [] := by
    intro e
    have := congrArg List.length e
    rw [List.length_append, Z0i, show clampSize 4 = 4 by decide] at this
    simp at this
  have HN := Lib.hid hne
  clear hne
  go_wp2_with fail
  refine (Z4e w.heap.size g3 _ _ h3 HN.out).mono ?_
  rintro e w4 ⟨rfl, h4, k4⟩
  have b4 := k4.below b3 z3 (Nat.le_refl _) r3
  clear h3 h4 k4 b3 z3 HN
  go_wp2_with fail
  go_ret
  exact ⟨by rw [← HZ.out]; rfl, b4⟩

set_option maxHeartbeats 1000000 in
theorem Z67 (s : ByteArray) (w : World) (hs : s.size < 4) :
    Calls Tryz.prog 95 #[.string s] w fun e w' => e = .returned (.tuple #[.string ⟨#[]⟩, .bool false]) ∧ Below w.heap.size w w' := by
  go_enter Tryz.func95, Tryz.ntmps95
  go_wp2_with fail
  go_ret2
  exact ⟨rfl, by (repeat (first | with_reducible exact Below.refl _ _ | with_reducible assumption | with_reducible apply Below.drew | with_reducible apply Z0g | (with_reducible refine Z0n ?_ ?_; focus ((try simp); (try omega); done)) | (with_reducible refine Z0o ?_ ?_; focus ((try simp); (try omega); done))))⟩

theorem Z2o (s : ByteArray) : (⟨s.data.toList.toArray⟩ : ByteArray) = s := by simp
theorem str_ext {q s : ByteArray} (h : q.data.toList = s.data.toList) : q = s := by rw [← Z2o q, h, Z2o]
theorem str_ne {q s : ByteArray} (h : ¬ q = s) : (q.toList == s.toList) = false := by
  rw [beq_eq_false_iff_ne, ByteArray.toList_eq, ByteArray.toList_eq]
  exact fun e => h (str_ext e)
theorem cut_data (s : ByteArray) (n : Nat) (h : n ≤ s.size) : (s.extract 0 n).data.toList = s.data.toList.take n := by
  have := Lib.extract_data s 0 n
  rw [this, List.drop_zero, Nat.sub_zero]
theorem cut_eq (s : ByteArray) (n : Nat) (h : n ≤ s.size) : s.extract 0 n = ⟨(s.data.toList.take n).toArray⟩ := by
  rw [← cut_data s n h, Z2o]

theorem seal_cut (s q : ByteArray) (w : World) (hs : 4 ≤ s.size) (hs2 : s.size ≤ 1099511627776) (h : (⟨(sealL (s.data.toList.take (s.size - 4))).toArray⟩ : ByteArray) = q) :
    Calls Tryz.prog 76 #[.string (s.extract 0 (s.size - 4))] w fun e w' => e = .returned (.string q) ∧ Below w.heap.size w w' := by
  have := Z6n (s.extract 0 (s.size - 4)) w (by rw [ByteArray.size_extract]; omega)
  rw [cut_data s _ (by omega), h] at this
  exact this

set_option maxHeartbeats 1000000 in
theorem open_yes (s : ByteArray) (w : World) (hs : 4 ≤ s.size) (hs2 : s.size ≤ 1099511627776) (h : sealL (s.data.toList.take (s.size - 4)) = s.data.toList) :
    Calls Tryz.prog 95 #[.string s] w fun e w' => e = .returned (.tuple #[.string ⟨(s.data.toList.take (s.size - 4)).toArray⟩, .bool true]) ∧ Below w.heap.size w w' := by
  have H := Lib.hid (fun W => seal_cut s s W hs hs2 (by rw [h, Z2o]))
  clear h
  go_enter Tryz.func95, Tryz.ntmps95
  go_wp2_with fail
  refine (H.out _).mono ?_
  rintro e w1 ⟨rfl, hb⟩
  go_wp2_with fail
  go_ret2
  exact ⟨by rw [← cut_eq s (s.size - 4) (by omega)]; rfl, hb⟩

set_option maxHeartbeats 1000000 in
theorem open_no (s : ByteArray) (w : World) (hs : 4 ≤ s.size) (hs2 : s.size ≤ 1099511627776) (h : ¬ sealL (s.data.toList.take (s.size - 4)) = s.data.toList) :
    Calls Tryz.prog 95 #[.string s] w fun e w' => e = .returned (.tuple #[.string ⟨#[]⟩, .bool false]) ∧ Below w.heap.size w w' := by
  obtain ⟨q, hq⟩ : ∃ q : ByteArray, (⟨(sealL (s.data.toList.take (s.size - 4))).toArray⟩ : ByteArray) = q := ⟨_, rfl⟩
  have hne : (q.toList == s.toList) = false := str_ne (fun e => h (by rw [e] at hq; have := congrArg (fun x : ByteArray => x.data.toList) hq; simpa using this))
  have H := Lib.hid (fun W => seal_cut s q W hs hs2 hq)
  clear h hq
  go_enter Tryz.func95, Tryz.ntmps95
  go_wp2_with fail
  refine (H.out _).mono ?_
  rintro e w1 ⟨rfl, hb⟩
  go_wp2_with fail
  go_ret2
  exact ⟨rfl, hb⟩

/-- A reader's cells: what is left, and whether there were too few bytes. -/
def rdr (s : ByteArray) (short : Bool) : Array Value := #[.string s, .bool short]

theorem of_any (s : ByteArray) (w : World) : Calls Tryz.prog 96 #[.string s] w fun e w' => e = .returned (.pointer (some ⟨w.heap.size, 0, none⟩)) ∧ Upd w w.heap.size 170 (rdr s false) w' := by
  go_enter Tryz.func96, Tryz.ntmps96
  go_wp2
  go_ret
  exact ⟨rfl, Blk.new _ _ _, Z42 (World.grownBy.refl w _) _⟩

/-- The next bytes: with enough of them. -/
theorem take_yes (g : Nat) (s : ByteArray) (short : Bool) (n : Nat) (w : World) (h : Blk w g 170 (rdr s short)) (hn : n ≤ s.size) (hs : s.size ≤ 9223372036854775807) :
    Calls Tryz.prog 117 #[.pointer (some ⟨g, 0, none⟩), .int .i64 n] w fun e w' => e = .returned (.string (s.extract 0 n)) ∧ Upd w g 170 (rdr (s.extract n s.size) short) w' := by
  have c0 : w.cell? ⟨g, 0, none⟩ = some (.string s) := h.cell 0
  have c1 : w.cell? ⟨g, 1, none⟩ = some (.bool short) := h.cell 1
  have f0 : w.frozen? ⟨g, 0, none⟩ = false := h.frozen 0
  have f1 : w.frozen? ⟨g, 1, none⟩ = false := h.frozen 1
  have H := Lib.hid h
  clear h
  go_enter Tryz.func117, Tryz.ntmps117
  go_wp2
  go_ret
  exact ⟨rfl, (Upd.refl H.out).set 0 _⟩
theorem take_short (g : Nat) (s : ByteArray) (short : Bool) (n : Nat) (w : World) (h : Blk w g 170 (rdr s short)) (hn : s.size < n) (hn2 : n ≤ 9223372036854775807) :
    Calls Tryz.prog 117 #[.pointer (some ⟨g, 0, none⟩), .int .i64 n] w fun e w' => e = .returned (.string ⟨#[]⟩) ∧ Upd w g 170 (rdr ⟨#[]⟩ true) w' := by
  have c0 : w.cell? ⟨g, 0, none⟩ = some (.string s) := h.cell 0
  have c1 : w.cell? ⟨g, 1, none⟩ = some (.bool short) := h.cell 1
  have f0 : w.frozen? ⟨g, 0, none⟩ = false := h.frozen 0
  have f1 : w.frozen? ⟨g, 1, none⟩ = false := h.frozen 1
  have H := Lib.hid h
  clear h
  go_enter Tryz.func117, Tryz.ntmps117
  go_wp2
  go_ret
  exact ⟨rfl, ((Upd.refl H.out).set 0 _).set 1 _⟩
theorem end_yes (g : Nat) (s : ByteArray) (w : World) (h : Blk w g 170 (rdr s false)) (h0 : s.size = 0) :
    Calls Tryz.prog 119 #[.pointer (some ⟨g, 0, none⟩)] w fun e w' => e = .returned (.int .i64 0) ∧ w = w' := by
  have c0 : w.cell? ⟨g, 0, none⟩ = some (.string s) := h.cell 0
  have c1 : w.cell? ⟨g, 1, none⟩ = some (.bool false) := h.cell 1
  clear h
  have hz : s.toList.isEmpty = true := by rw [ByteArray.toList_eq]; simp; exact Array.eq_empty_of_size_eq_zero h0
  go_enter Tryz.func119, Tryz.ntmps119
  go_wp2
  go_ret
  exact ⟨rfl, rfl⟩
theorem end_no (g : Nat) (s : ByteArray) (short : Bool) (w : World) (h : Blk w g 170 (rdr s short)) (h0 : short = false → s.size ≠ 0) :
    Calls Tryz.prog 119 #[.pointer (some ⟨g, 0, none⟩)] w fun e w' => e = .returned (.int .i64 3) ∧ w = w' := by
  have c0 : w.cell? ⟨g, 0, none⟩ = some (.string s) := h.cell 0
  have c1 : w.cell? ⟨g, 1, none⟩ = some (.bool short) := h.cell 1
  clear h
  cases short
  · have hz : s.toList.isEmpty = false := by rw [ByteArray.toList_eq]; simp; exact fun e => h0 rfl (by rw [ByteArray.size, e]; rfl)
    clear h0
    go_enter Tryz.func119, Tryz.ntmps119
    go_wp2
    go_ret
    exact ⟨rfl, rfl⟩
  · clear h0
    go_enter Tryz.func119, Tryz.ntmps119
    go_wp2
    go_ret
    exact ⟨rfl, rfl⟩

end Go.Proofs.YtakkhglbdljfiaaGreatDoor
