/- trees over any reader of pages: read, rightly (by the machine). -/
import Derived.Test.YtbfgacmfjfbooaaKReachExact05
import Derived.Test.YtbfgacmfjfbooaaKReachExact13
import Derived.Test.YtbfgacmfjfbooaaKReachExact06
import Derived.Test.YtbfgacmfjfbooaaKReachExact01
namespace Go.Proofs.Ytbfgacmfjfbooaa
set_option linter.unusedVariables false
set_option linter.unusedSimpArgs false
set_option linter.unusedVariables false
set_option linter.unusedSimpArgs false
open Go.RowKit

abbrev vj (k : Nat) : Ht := .v (.pointer (some ⟨0, k, none⟩))
abbrev vI (z : Int) : Ht := .v (.int .i64 z)
/-- The nodes that a reader of pages tells. -/
abbrev Nfn := Int → Option (Int × List Pr)
abbrev badL : Value := .agg #[.int .i64 0, .slice none 0 0]
def RdQ (w : World) (o : Option (Int × List Pr)) (e : Ending) (w' : World) : Prop := match o with
  | none => e = .returned (.tuple #[badL, .int .i64 9]) ∧ Ext w w'
  | some (l, ps) => ∃ v, e = .returned (.tuple #[.agg #[.int .i64 l, v], .int .i64 0]) ∧ OwnT w.heap.size w [tPs v ps] w'
structure Reads (A : World) (p : Value) (N : Nfn) : Prop where
  run : ∀ w, Ext A w → ∀ q, ∃ f us, (∀ w, (callMethod p "Read" ⟨[.int .i64 q]⟩).run Try.prog w = .ok (.enter f us) w) ∧ Calls Try.prog f us w (RdQ w (N q))
  bd : ∀ q l ps, N q = some (l, ps) → 1 ≤ q ∧ q ≤ 1023 ∧ ps.length ≤ 1000000 ∧ ∀ x ∈ ps, x.1 < 18446744073709551616 ∧ x.2 < 18446744073709551616
theorem Reads.ext {A B : World} {p : Value} {N : Nfn} (h : Reads A p N) (E : Ext A B) : Reads B p N := ⟨fun w k => h.run w (E.trans k), h.bd⟩
/-- A node that is one, of a level (below 0: any). -/
def nodeG (N : Nfn) (q lv : Int) : Option (Int × List Pr) := match N q with
  | none => none
  | some (l, ps) => if goodB l ps = true ∧ ps ≠ [] ∧ (lv < 0 ∨ l = lv) then some (l, ps) else none
def TrQ (w : World) (o : Option (Int × List Pr)) (e : Ending) (w' : World) : Prop := match o with
  | none => (∃ er : Int, (er = 9 ∨ er = 3) ∧ e = .returned (.tuple #[badL, .int .i64 er])) ∧ Ext w w'
  | some (l, ps) => ∃ v, e = .returned (.tuple #[.agg #[.int .i64 l, v], .int .i64 0]) ∧ OwnT w.heap.size w [tPs v ps] w'
theorem Z7o {B : Option Addr} {c : Nat} {ps : List Pr} {w : World} (h : (tPs (.slice B ps.length c) ps).holds w) (hl : ps.length ≤ 1000000) : Row w B 2 pairC ps :=
  Z56 (enc := pairC) (k := 2) (fun _ => rfl) (by omega) (show World.ownsRow _ 0 _ _ _ _ (ps.flatMap pairC) from h)
set_option maxRecDepth 10000 in
theorem treadX {A : World} {p : Value} {N : Nfn} (hR : Reads A p N) (q lv : Int) (w0 : World) (hE : Ext A w0) :
    Calls Try.prog 88 #[p, .int .i64 q, .int .i64 lv] w0 (TrQ w0 (nodeG N q lv)) := by
  refine fnG (OwnT.start w0) 44 Try.func88 rfl rfl rfl fun a h => ?_
  refine gX h [] rfl fun a w h => ?_
  refine gW h rfl fun g6 a w E h => ?_
  refine gX h [] rfl fun a w h => ?_
  obtain ⟨f, us, hm, hc⟩ := hR.run w (hE.trans h.O.below) q
  refine gI h rfl (hm w) hc ?_
  intro e w' hP
  unfold nodeG
  cases hN : N q with
  | none =>
    rw [hN] at hP
    obtain ⟨rfl, E⟩ := hP
    refine ⟨_, rfl, _, h.O.ext E, trivial, fun a h => ?_⟩
    refine gX h [] rfl fun a w h => ?_
    refine gW h rfl fun g8 a w E h => ?_
    refine gX h [0, .f, .t, 1] rfl fun a w h => ?_
    exact rtG Z2t h [1] rfl ⟨rfl, trivial⟩ ⟨⟨_, .inl rfl, rfl⟩, h.O.below⟩
  | some x =>
    obtain ⟨l, ps⟩ := x
    rw [hN] at hP
    obtain ⟨v, rfl, O2⟩ := hP
    obtain ⟨B, c, rfl⟩ := Z0c O2.r0
    obtain ⟨-, -, hl, hx⟩ := hR.bd q l ps hN
    refine ⟨_, rfl, _, h.O.graft O2, trivial, fun a h => ?_⟩
    refine gX h [] rfl fun a w h => ?_
    refine gW h rfl fun g8 a w E h => ?_
    refine gX h [0, .t, 0] rfl fun a w h => ?_
    refine gE h rfl (Z5h l B ps.length c ps w rfl hl (Z7o h.O.all.2.1 hl) (fun x h => (hx x h).1)) fun a w E h => ?_
    simp only
    cases hg : goodB l ps with
    | false =>
      rw [hg] at h
      rw [if_neg (by simp)]
      refine gX h [.t, .t, 2] rfl fun a w h => ?_
      exact rtG Z2t h [2] rfl ⟨rfl, trivial⟩ ⟨⟨_, .inr rfl, rfl⟩, h.O.below⟩
    | true =>
    rw [hg] at h
    by_cases hn : ps.length = 0
    · rw [if_neg (fun h => h.2.1 (List.length_eq_zero_iff.1 hn))]
      refine gX h [.f, 0, .t, .t, 2] rfl fun a w h => ?_
      exact rtG Z2t h [2] rfl ⟨rfl, trivial⟩ ⟨⟨_, .inr rfl, rfl⟩, h.O.below⟩
    have hne : ps ≠ [] := fun h => hn (by rw [h]; rfl)
    by_cases h0 : lv < 0
    · rw [if_pos ⟨rfl, hne, .inl h0⟩]
      refine gX h [.f, 0, .f, .f, .f, 0, 2] rfl fun a w h => ?_
      exact rtG Z2t h [2] rfl ⟨rfl, trivial⟩ ⟨_, rfl, h.O.sub (.cons _ (.cons_cons _ (.cons _ (List.Sublist.refl _))))⟩
    by_cases h1 : l = lv
    · rw [if_pos ⟨rfl, hne, .inr h1⟩]
      refine gX h [.f, 0, .f, .t, 0, .f, .f, 0, 2] rfl fun a w h => ?_
      exact rtG Z2t h [2] rfl ⟨rfl, trivial⟩ ⟨_, rfl, h.O.sub (.cons _ (.cons_cons _ (.cons _ (List.Sublist.refl _))))⟩
    · rw [if_neg (fun h => by rcases h.2.2 with h | h <;> omega)]
      refine gX h [.f, 0, .f, .t, 0, .t, .t, 2] rfl fun a w h => ?_
      exact rtG Z2t h [2] rfl ⟨rfl, trivial⟩ ⟨⟨_, .inr rfl, rfl⟩, h.O.below⟩
/-- Whether a node's pairs are within bounds. -/
def rgt (f0 : Nat) (fb : Bool) (h0 : Nat) (hb : Bool) (l : Int) (ps : List Pr) : Bool :=
  decide (¬ (fb = true ∧ keyAt ps 0 ≠ f0) ∧ ¬ (fb = false ∧ 0 < l ∧ ps.length < 2)) && decide (hb = true → keyAt ps (ps.length - 1) < h0)
abbrev bdV (f0 : Nat) (fb : Bool) (h0 : Nat) (hb : Bool) : Value := .agg #[.int .u64 f0, .bool fb, .int .u64 h0, .bool hb]
set_option maxRecDepth 10000 in
theorem rightlyX (f0 : Nat) (fb : Bool) (h0 : Nat) (hb : Bool) (l : Int) (B : Option Addr) (c : Nat) (ps : List Pr) (w0 : World) (hrow : Row w0 B 2 pairC ps) (hl : ps.length ≤ 1000000) (hne : ps ≠ []) :
    Calls Try.prog 117 #[bdV f0 fb h0 hb, .agg #[.int .i64 l, .slice B ps.length c]] w0 fun e w' => e = .returned (.bool (rgt f0 fb h0 hb l ps)) ∧ Ext w0 w' := by
  have hn : 0 < ps.length := List.length_pos_iff.2 hne
  obtain ⟨b, o, rfl, -, -⟩ := hrow.pair_in (Below.refl _ _) (j := 0) hn
  have q0 := hrow.key_at (Below.refl _ _) (j := 0) hn
  have q1 := hrow.key_at (Below.refl _ _) (j := ps.length - 1) (by omega)
  rw [Nat.zero_mul, Nat.add_zero] at q0
  unfold rgt
  generalize keyAt ps 0 = k0 at q0 ⊢
  generalize keyAt ps (ps.length - 1) = k1 at q1 ⊢
  obtain ⟨m, hm⟩ : ∃ m, ps.length = m + 1 := ⟨ps.length - 1, by omega⟩
  rw [hm] at hl q1 ⊢
  rw [Nat.add_sub_cancel] at q1
  refine fnG (aw0 w0) 50 Try.func117 rfl rfl rfl fun a h => ?_
  refine gX h [] rfl fun a w h => ?_
  refine gW h rfl fun g2 a w E h => ?_
  refine gX h [] rfl fun a w h => ?_
  refine gW h rfl fun g3 a w E h => ?_
  cases fb with
  | true =>
    by_cases h1 : k0 = f0
    rotate_left
    · refine gX h [1, 0, .v (.slice (some ⟨b, o, none⟩) (m + 1) c), vj o, .k [2], .v (.int .u64 k0), 1, .v (.int .u64 f0), .t] rfl fun a w h => ?_
      exact gR h rfl ⟨by simp [h1], h.O.awE (L := [_, _])⟩
    cases hb with
    | false => 
      refine gX h [1, 0, .v (.slice (some ⟨b, o, none⟩) (m + 1) c), vj o, .k [2], .v (.int .u64 k0), 1, .v (.int .u64 f0), .f, 1, .f, 1, .t] rfl fun a w h => ?_
      exact gR h rfl ⟨by simp [h1], h.O.awE (L := [_, _])⟩
    | true =>
      by_cases h4 : k1 < h0
      · refine gX h [1, 0, .v (.slice (some ⟨b, o, none⟩) (m + 1) c), vj o, .k [2], .v (.int .u64 k0), 1, .v (.int .u64 f0), .f, 1, .f, 1, .f, 0, .v (.slice (some ⟨b, o, none⟩) (m + 1) c), 0, .v (.slice (some ⟨b, o, none⟩) (m + 1) c), vI (m + 1 : Nat), vI m, vj (o + m * 2), .k [2], .v (.int .u64 k1), 1, .v (.int .u64 h0), .t] rfl fun a w h => ?_
        exact gR h rfl ⟨by simp [h1, h4], h.O.awE (L := [_, _])⟩
      · refine gX h [1, 0, .v (.slice (some ⟨b, o, none⟩) (m + 1) c), vj o, .k [2], .v (.int .u64 k0), 1, .v (.int .u64 f0), .f, 1, .f, 1, .f, 0, .v (.slice (some ⟨b, o, none⟩) (m + 1) c), 0, .v (.slice (some ⟨b, o, none⟩) (m + 1) c), vI (m + 1 : Nat), vI m, vj (o + m * 2), .k [2], .v (.int .u64 k1), 1, .v (.int .u64 h0), .f] rfl fun a w h => ?_
        exact gR h rfl ⟨by simp [h1, h4], h.O.awE (L := [_, _])⟩
  | false =>
    by_cases h1 : 0 < l
    · by_cases h2 : m = 0
      · refine gX h [1, 1, .t, 0, .v (.int .i64 l), .t, 0, .v (.slice (some ⟨b, o, none⟩) (m + 1) c), .t] rfl fun a w h => ?_
        exact gR h rfl ⟨by simp [h1, h2], h.O.awE (L := [_, _])⟩
      have h3 : ¬ m + 1 < 2 := by omega
      cases hb with
      | false => 
        refine gX h [1, 1, .t, 0, .v (.int .i64 l), .t, 0, .v (.slice (some ⟨b, o, none⟩) (m + 1) c), .f, 1, .t] rfl fun a w h => ?_
        exact gR h rfl ⟨by simp [h1, h3], h.O.awE (L := [_, _])⟩
      | true =>
        by_cases h4 : k1 < h0
        · refine gX h [1, 1, .t, 0, .v (.int .i64 l), .t, 0, .v (.slice (some ⟨b, o, none⟩) (m + 1) c), .f, 1, .f, 0, .v (.slice (some ⟨b, o, none⟩) (m + 1) c), 0, .v (.slice (some ⟨b, o, none⟩) (m + 1) c), vI (m + 1 : Nat), vI m, vj (o + m * 2), .k [2], .v (.int .u64 k1), 1, .v (.int .u64 h0), .t] rfl fun a w h => ?_
          exact gR h rfl ⟨by simp [h1, h3, h4], h.O.awE (L := [_, _])⟩
        · refine gX h [1, 1, .t, 0, .v (.int .i64 l), .t, 0, .v (.slice (some ⟨b, o, none⟩) (m + 1) c), .f, 1, .f, 0, .v (.slice (some ⟨b, o, none⟩) (m + 1) c), 0, .v (.slice (some ⟨b, o, none⟩) (m + 1) c), vI (m + 1 : Nat), vI m, vj (o + m * 2), .k [2], .v (.int .u64 k1), 1, .v (.int .u64 h0), .f] rfl fun a w h => ?_
          exact gR h rfl ⟨by simp [h1, h3, h4], h.O.awE (L := [_, _])⟩
    · skip
      cases hb with
      | false => 
        refine gX h [1, 1, .t, 0, .v (.int .i64 l), .f, 1, .t] rfl fun a w h => ?_
        exact gR h rfl ⟨by simp [h1], h.O.awE (L := [_, _])⟩
      | true =>
        by_cases h4 : k1 < h0
        · refine gX h [1, 1, .t, 0, .v (.int .i64 l), .f, 1, .f, 0, .v (.slice (some ⟨b, o, none⟩) (m + 1) c), 0, .v (.slice (some ⟨b, o, none⟩) (m + 1) c), vI (m + 1 : Nat), vI m, vj (o + m * 2), .k [2], .v (.int .u64 k1), 1, .v (.int .u64 h0), .t] rfl fun a w h => ?_
          exact gR h rfl ⟨by simp [h1, h4], h.O.awE (L := [_, _])⟩
        · refine gX h [1, 1, .t, 0, .v (.int .i64 l), .f, 1, .f, 0, .v (.slice (some ⟨b, o, none⟩) (m + 1) c), 0, .v (.slice (some ⟨b, o, none⟩) (m + 1) c), vI (m + 1 : Nat), vI m, vj (o + m * 2), .k [2], .v (.int .u64 k1), 1, .v (.int .u64 h0), .f] rfl fun a w h => ?_
          exact gR h rfl ⟨by simp [h1, h4], h.O.awE (L := [_, _])⟩

/-! slices.Contains of ints. -/
def memI (x : Int) (P : List Nat) : Bool := P.any fun y => decide ((y : Int) = x)
theorem Z4k (P : List Nat) (j : Nat) : (P.flatMap encN)[j]? = P[j]?.map fun (y : Nat) => Value.int .i64 (y : Int) := by
  rw [show P.flatMap encN = P.map fun (y : Nat) => Value.int .i64 (y : Int) by
    induction P with
    | nil => rfl
    | cons y P ih => simp [List.flatMap_cons, encN, ih]]
  simp
set_option maxRecDepth 10000 in
theorem indexX {v : Value} (x : Int) (P : List Nat) (w0 : World) (hr : (tNs v P).holds w0) (hl : P.length ≤ 2000000) :
    Calls Try.prog 129 #[v, .int .i64 x] w0 fun e w' => (∃ z : Int, e = .returned (.int .i64 z) ∧ memI x P = decide (0 ≤ z)) ∧ Ext w0 w' := by
  obtain ⟨B, c, rfl⟩ := Z0c (show w0.ownsRow 0 _ _ _ _ _ from hr)
  obtain ⟨ce, hc, hce⟩ := rowCe (show w0.ownsRow 0 _ _ _ _ _ from hr)
  refine fnG (all0 w0 ce hc) 19 Try.func129 rfl rfl rfl fun a h => ?_
  refine gX h [] rfl fun a w h => ?_
  refine lpG (G := Nat) (fun j => [(0, .slice B P.length c), (1, .int .i64 x), (7, .int .i64 P.length), (8, .int .i64 j)]) (fun _ => [tAll _ ce hc]) (fun j => j ≤ P.length ∧ ∀ i y, i < j → P[i]? = some y → (y : Int) ≠ x) (fun j => P.length - j) 0 h ⟨rfl, rfl, rfl, rfl, trivial⟩ h.O ⟨Nat.zero_le _, fun i y hi => absurd hi (Nat.not_lt_zero i)⟩ fun j ⟨hj, hno⟩ a w h => ?_
  by_cases h1 : j < P.length
  · obtain ⟨b, c', hv, rfl⟩ := hce (by omega)
    obtain ⟨rfl, rfl⟩ : B = some ⟨b, 0, none⟩ ∧ c = c' := by injection hv with h1 h2 h3; exact ⟨h1, h3⟩
    clear hv
    obtain ⟨y, hy⟩ : ∃ y, P[j]? = some y := ⟨_, List.getElem?_eq_getElem h1⟩
    have q : (P.flatMap encN)[j]? = some (Value.int .i64 (y : Int)) := by rw [Z4k, hy]; rfl
    by_cases h2 : (y : Int) = x
    · refine gX h [.t, vj j, 0, .v (.int .i64 y), .t] rfl fun a w h => ?_
      exact gR h rfl ⟨⟨_, rfl, by
        rw [decide_eq_true (by omega)]
        exact List.any_eq_true.2 ⟨y, List.mem_of_getElem? hy, by simpa using h2⟩⟩, allE 0 h.O rfl⟩
    · refine gX h [.t, vj j, 0, .v (.int .i64 y), .f] rfl fun a w h => ?_
      exact reG (j + 1) h ⟨rfl, rfl, rfl, rfl, trivial⟩ h.O ⟨h1, fun i z hi hz => by
        by_cases hij : i = j
        · subst hij; rw [hy] at hz; cases hz; exact h2
        · exact hno i z (by omega) hz⟩ (by omega)
  · refine gX h [.f] rfl fun a w h => ?_
    exact gR h rfl ⟨⟨_, rfl, by
      rw [decide_eq_false (by omega)]
      refine List.any_eq_false.2 fun y hy => ?_
      obtain ⟨i, hi⟩ := List.mem_iff_getElem?.1 hy
      simpa using hno i y (by have := (List.getElem?_eq_some_iff.1 hi).1; omega) hi⟩, allE 0 h.O rfl⟩
theorem containsX {v : Value} (x : Int) (P : List Nat) (w0 : World) (hr : (tNs v P).holds w0) (hl : P.length ≤ 2000000) :
    Calls Try.prog 116 #[v, .int .i64 x] w0 fun e w' => e = .returned (.bool (memI x P)) ∧ Ext w0 w' := by
  refine fnG (OwnT.start w0) 9 Try.func116 rfl rfl rfl fun a h => ?_
  refine gX h [] rfl fun a w h => ?_
  refine gC h rfl (indexX x P w ((tNs v P).chg hr (Chg.of_ext h.O.below []) (by simp)) hl) ?_
  rintro e w' ⟨⟨z, rfl, hz⟩, E⟩
  refine ⟨_, rfl, _, h.O.ext E, trivial, fun a h => ?_⟩
  refine gX h [] rfl fun a w h => ?_
  exact gR h rfl ⟨by rw [hz], h.O.below⟩
/-! A walk's things. -/
abbrev wkB (gw : Nat) (v1 v2 : Value) (er : Int) : Thing := tBlk gw 157 ⟨[v1, v2, .int .i64 er]⟩
theorem wfailX {H : Nat} {A : World} {R : List Thing} {gw : Nat} {v1 v2 : Value} (er : Int) (w : World) (O : OwnT H A (wkB gw v1 v2 0 :: R) w) :
    Calls Try.prog 115 #[.pointer (some ⟨gw, 0, none⟩), .int .i64 er] w fun e w' => e = .returned (.tuple ⟨[]⟩) ∧ OwnT H A (wkB gw v1 v2 er :: R) w' := by
  refine fnG O 13 Try.func115 rfl rfl rfl fun a h => ?_
  refine gX h [0, .t, 0] rfl fun a w h => ?_
  exact gN h rfl ⟨rfl, h.O⟩
/-- The pages of a node's subtrees, each behind those that were met. -/
def kidsV (f : Int → Nat → Bool → Nat → List Nat → Option (List Nat)) (hb : Bool) (h0 : Nat) : List Pr → List Nat → Option (List Nat)
  | [], P => some P
  | x :: r, P => match f x.2 x.1 (if r = [] then hb else true) ((r.head?.map (·.1)).getD h0) P with
    | none => none
    | some P' => kidsV f hb h0 r P'
/-- The pages of a tree behind those that were met; none: it isn't sound. -/
def vis (N : Nfn) : Nat → Int → Int → Nat → Bool → Nat → Bool → List Nat → Option (List Nat)
  | 0, _, _, _, _, _, _, _ => none
  | k + 1, q, lv, f0, fb, h0, hb, P => match nodeG N q lv with
    | none => none
    | some (l, ps) => if memI q P = true ∨ rgt f0 fb h0 hb l ps = false then none else
      if l = 0 then some (P ++ [q.toNat]) else kidsV (fun c f0 hb h0 P => vis N k c (l - 1) f0 true h0 hb P) hb h0 ps (P ++ [q.toNat])
structure WkI (P : List Nat) (Q : List Pr) : Prop where
  nd : P.Nodup
  bd : ∀ x ∈ P, x ≤ 1023
  q : Q.length ≤ 15 * P.length
theorem WkI.len {P : List Nat} {Q : List Pr} (h : WkI P Q) : P.length ≤ 1024 := Z72 1024 P h.nd fun x hx => by have := h.bd x hx; omega
theorem Z44 {ps : List Pr} {i : Nat} {x : Pr} (h : ps[i]? = some x) : ((flatP ps).drop (2 * i)).take 2 = [.int .u64 (x.1 : Nat), .int .u64 (x.2 : Nat)] := by
  induction ps generalizing i with
  | nil => simp at h
  | cons y ps ih =>
    cases i with
    | zero => simp at h; subst h; rfl
    | succ i =>
      have := ih (i := i) (by simpa using h)
      rw [show 2 * (i + 1) = 2 + 2 * i by omega, ← List.drop_drop]
      exact this
theorem flatP_key {ps : List Pr} {i : Nat} {x : Pr} (h : ps[i]? = some x) : (flatP ps)[2 * i]? = some (.int .u64 (x.1 : Nat)) := by
  have := congrArg (fun l => l[0]?) (Z44 h)
  simpa [List.getElem?_take, List.getElem?_drop] using this
theorem ps_one (ps : List Pr) : ∀ u ∈ flatP ps, u.oneCell' = true := by
  intro u hu
  obtain ⟨x, -, hx⟩ := List.mem_flatMap.1 hu
  simp [pairC] at hx
  rcases hx with rfl | rfl <;> rfl
theorem Z71 (P : List Nat) {q : Int} (hq : 0 ≤ q) : P.flatMap encN ++ [.int .i64 q] = (P ++ [q.toNat]).flatMap encN := by
  rw [List.flatMap_append]
  show _ = _ ++ [Value.int .i64 ((q.toNat : Nat) : Int)]
  rw [show ((q.toNat : Nat) : Int) = q by omega]
def WkQ (A : World) (R : List Thing) (gw : Nat) (o : Option (List Nat)) (e : Ending) (w' : World) : Prop :=
  e = .returned (.tuple ⟨[]⟩) ∧ ∃ (v1 v2 : Value) (er : Int) (P : List Nat) (Q : List Pr), OwnT A.heap.size A (wkB gw v1 v2 er :: tNs v1 P :: tPs v2 Q :: R) w' ∧ WkI P Q ∧ match o with
    | none => er = 3
    | some P2 => er = 0 ∧ P = P2
theorem wskipX {H : Nat} {A : World} {R : List Thing} {gw : Nat} {v1 v2 p b : Value} {q lv er : Int} {x1 x2 x3 x4 : Value} (hb : b = .agg ⟨[x1, x2, x3, x4]⟩) (w : World) (O : OwnT H A (wkB gw v1 v2 er :: R) w) (he : er ≠ 0) :
    Calls Try.prog 94 #[.pointer (some ⟨gw, 0, none⟩), p, .int .i64 q, .int .i64 lv, b] w fun e w' => e = .returned (.tuple ⟨[]⟩) ∧ OwnT H A (wkB gw v1 v2 er :: R) w' := by
  subst hb
  refine fnG O 117 Try.func94 rfl rfl rfl fun a h => ?_
  refine gX h [] rfl fun a w h => ?_
  refine gW h rfl fun g9 a w E h => ?_
  refine gX h [1, .t] rfl fun a w h => ?_
  exact gR h rfl ⟨rfl, h.O.tail⟩
theorem WkI.page {P : List Nat} {Q : List Pr} (h : WkI P Q) {q : Int} (hm : memI q P = false) (h1 : 1 ≤ q ∧ q ≤ 1023) : WkI (P ++ [q.toNat]) Q where
  nd := List.nodup_append.2 ⟨h.nd, by simp, fun x hx y hy e => by
    rw [List.mem_singleton.1 hy] at e
    have := List.any_eq_false.1 hm x hx
    exact this (by simp; omega)⟩
  bd := fun x hx => by
    rcases List.mem_append.1 hx with hx | hx
    · exact h.bd x hx
    · rw [List.mem_singleton.1 hx]; omega
  q := by have := h.q; rw [List.length_append, List.length_singleton]; omega
theorem Z2m {l : Int} {ps : List Pr} (h : goodB l ps = true) : (0 ≤ l ∧ l < 8 ∧ ps.length ≤ 15) ∧ (0 < l → ∀ x ∈ ps, 1 ≤ x.2 ∧ x.2 < 512) := by
  unfold goodB at h
  simp only [Bool.and_eq_true, decide_eq_true_eq, Bool.or_eq_true, Bool.not_eq_true'] at h
  refine ⟨h.1, fun h0 x hx => ?_⟩
  rcases h.2.2 with h1 | h1
  · omega
  · have := List.any_eq_false.1 h1.2 x hx
    unfold farB at this
    simp at this
    omega
set_option maxRecDepth 20000 in
theorem wnodeX {A : World} {p : Value} {N : Nfn} (hR : Reads A p N) (hpv : ∃ t v, p = .iface t v) : ∀ (k : Nat) (q lv : Int) (f0 : Nat) (fb : Bool) (h0 : Nat) (hb : Bool) (gw : Nat) (v1 v2 : Value) (P : List Nat) (Q : List Pr) (R : List Thing) (w : World) (O : OwnT A.heap.size A (wkB gw v1 v2 0 :: tNs v1 P :: tPs v2 Q :: R) w) (hI : WkI P Q) (hk : (0 ≤ lv → lv < k) ∧ (lv < 0 → 8 ≤ k)) (hf0 : f0 < 18446744073709551616) (hh0 : h0 < 18446744073709551616),
    Calls Try.prog 94 #[.pointer (some ⟨gw, 0, none⟩), p, .int .i64 q, .int .i64 lv, bdV f0 fb h0 hb] w (WkQ A R gw (vis N k q lv f0 fb h0 hb P)) := by
  obtain ⟨pt, pv, rfl⟩ := hpv
  intro k
  induction k with
  | zero => intro q lv f0 fb h0 hb gw v1 v2 P Q R w O hI hk; omega
  | succ k ih =>
  intro q lv f0 fb h0 hb gw v1 v2 P Q R w O hI hk hf0 hh0
  obtain ⟨B1, c1, rfl⟩ := Z0c (show w.ownsRow 0 _ _ _ _ _ from O.all.2.1)
  obtain ⟨B2, c2, rfl⟩ := Z0c (show w.ownsRow 0 _ _ _ _ _ from O.all.2.2.1)
  refine fnG O 117 Try.func94 rfl rfl rfl fun a h => ?_
  refine gX h [] rfl fun a w h => ?_
  refine gW h rfl fun g9 a w E h => ?_
  refine gX h [1, .f] rfl fun a w h => ?_
  refine gC h rfl (treadX hR q lv w h.O.below) ?_
  intro e w' hP
  unfold vis
  cases hG : nodeG N q lv with
  | none =>
    rw [hG] at hP
    obtain ⟨⟨er, her, rfl⟩, E⟩ := hP
    refine ⟨_, rfl, _, h.O.ext E, trivial, fun a h => ?_⟩
    refine gX h [] rfl fun a w h => ?_
    refine gW h rfl fun g10 a w E h => ?_
    rcases her with rfl | rfl
    · refine gX h [0, .t] rfl fun a w h => ?_
      refine gC h rfl (wfailX 3 w (h.O.sub (.cons _ (.cons _ (List.Sublist.refl _))))) ?_
      rintro e w' ⟨rfl, O2⟩
      refine ⟨_, rfl, _, O2, trivial, fun a h => ?_⟩
      refine gX h [] rfl fun a w h => ?_
      exact gR h rfl ⟨rfl, _, _, _, P, Q, h.O, hI, rfl⟩
    · refine gX h [0, .f, .t] rfl fun a w h => ?_
      refine gC h rfl (wfailX 3 w (h.O.sub (.cons _ (.cons _ (List.Sublist.refl _))))) ?_
      rintro e w' ⟨rfl, O2⟩
      refine ⟨_, rfl, _, O2, trivial, fun a h => ?_⟩
      refine gX h [] rfl fun a w h => ?_
      exact gR h rfl ⟨rfl, _, _, _, P, Q, h.O, hI, rfl⟩
  | some x =>
  obtain ⟨l, ps⟩ := x
  rw [hG] at hP
  obtain ⟨v, rfl, O2⟩ := hP
  obtain ⟨B, c, rfl⟩ := Z0c O2.r0
  obtain ⟨hN, hg, hne, hlv⟩ : N q = some (l, ps) ∧ goodB l ps = true ∧ ps ≠ [] ∧ (lv < 0 ∨ l = lv) := by
    unfold nodeG at hG
    split at hG
    · cases hG
    · split at hG
      · rename_i hc
        cases hG
        exact ⟨by assumption, hc⟩
      · cases hG
  obtain ⟨hq1, hq2, hl, hx⟩ := hR.bd q l ps hN
  obtain ⟨⟨hl0, hl8, h15⟩, hv512⟩ := Z2m hg
  have hplen := hI.len
  refine ⟨_, rfl, _, h.O.graft O2, trivial, fun a h => ?_⟩
  refine gX h [] rfl fun a w h => ?_
  refine gW h rfl fun g10 a w E h => ?_
  refine gX h [0, .f, .f, 3] rfl fun a w h => ?_
  refine gE h rfl (containsX q P w h.O.all.2.2.2.2.1 (by omega)) fun a w E h => ?_
  simp only
  cases hm : memI q P with
  | true =>
    rw [hm] at h
    rw [if_pos (.inl rfl)]
    refine gX h [] rfl fun a w h => ?_
    refine gC h rfl (wfailX 3 w (h.O.sub (.cons _ (.cons _ (.cons _ (List.Sublist.refl _)))))) ?_
    rintro e w' ⟨rfl, O2⟩
    refine ⟨_, rfl, _, O2, trivial, fun a h => ?_⟩
    refine gX h [] rfl fun a w h => ?_
    exact gR h rfl ⟨rfl, _, _, _, P, Q, h.O, hI, rfl⟩
  | false =>
  rw [hm] at h
  refine gX h [2, 0] rfl fun a w h => ?_
  refine gE h rfl (rightlyX f0 fb h0 hb l B c ps w (Z7o h.O.all.2.1 hl) hl hne) fun a w E h => ?_
  cases hr : rgt f0 fb h0 hb l ps with
  | false =>
    rw [hr] at h
    rw [if_pos (.inr rfl)]
    refine gX h [.t] rfl fun a w h => ?_
    refine gC h rfl (wfailX 3 w (h.O.sub (.cons _ (.cons _ (.cons _ (List.Sublist.refl _)))))) ?_
    rintro e w' ⟨rfl, O2⟩
    refine ⟨_, rfl, _, O2, trivial, fun a h => ?_⟩
    refine gX h [] rfl fun a w h => ?_
    exact gR h rfl ⟨rfl, _, _, _, P, Q, h.O, hI, rfl⟩
  | true =>
  rw [hr] at h
  rw [if_neg (by simp)]
  have hI2 := hI.page hm ⟨hq1, by omega⟩
  have hqn : ((q.toNat : Nat) : Int) = q := by omega
  refine gX h [.f, 3] rfl fun a w h => ?_
  refine gS (bytes := 8) h 3 1 rfl fun gs a w hE h => ?_
  refine gA (bytes := 8) h rfl 4 rfl (fun _ _ => rfl) (by omega) (fun _ _ _ _ => trivial) fun B3 c3 a w h => ?_
  rw [Z71 P (by omega), show P.length + 1 = (P ++ [q.toNat]).length by simp] at h
  have hP2 : (P ++ [q.toNat]).length = P.length + 1 := by simp
  generalize P ++ [q.toNat] = P2 at h hI2 hP2 ⊢
  by_cases hz : l = 0
  · rw [if_pos hz]
    obtain ⟨b, o, rfl, -, -⟩ := (Z7o h.O.all.2.1 hl).pair_in (Below.refl _ _) (j := 0) (List.length_pos_iff.2 hne)
    refine gX h [3, 0, .t, .k [0, 1004], 0] rfl fun a w h => ?_
    refine gX h [3] rfl fun a w h => ?_
    have hql := hI.q
    obtain ⟨v4, w4, hrun, O4⟩ := Z34 (P := Try.prog) (h.O.front [_, _, _, _, _] rfl) elemPr (by decide) (m := ps.length) (c := c) (news := flatP ps) (by rw [Z0t]) (Z27 (Z7o h.O.all.2.1 hl)) (ps_one ps) (by unfold maxLen; omega) (by omega)
    obtain ⟨B4, c4, rfl⟩ := Z0c O4.r0
    refine spG h [] rfl rfl rfl (Z1e rfl (h.M.opv _ _ rfl) (h.M.opv _ _ rfl) (hrun _)) O4 ⟨O4.all.2.1, trivial⟩ fun a h => ?_
    refine gX h [] rfl fun a w h => ?_
    refine gU h [4] rfl rfl (fun w' O => ⟨O.all.2.1, trivial⟩) fun a w h => ?_
    refine gX h [] rfl fun a w h => ?_
    have hfl : flatP Q ++ flatP ps = flatP (Q ++ ps) := by simp [flatP]
    have O5 := h.O
    rw [hfl, show Q.length + ps.length = (Q ++ ps).length by simp] at O5
    have O6 : OwnT A.heap.size A (wkB gw _ _ 0 :: tNs _ P2 :: tPs _ (Q ++ ps) :: R) w := OwnT.pickR (L := [_, _, _, _, _, _]) (R := R) O5 [4, 5, 0] (by decide)
    exact gR h rfl ⟨rfl, _, _, _, P2, Q ++ ps, O6, ⟨hI2.nd, hI2.bd, by simp only [List.length_append]; omega⟩, rfl, rfl⟩
  rw [if_neg hz]
  obtain ⟨b, rfl⟩ : ∃ b, B = some ⟨b, 0, none⟩ := by
    rcases (show World.ownsRow _ 0 _ _ _ _ _ from h.O.all.2.1).2 with ⟨-, h0⟩ | ⟨g, cap, cur, hv, -⟩
    · have := List.length_pos_iff.2 hne; omega
    · injection hv with h1; exact ⟨g, h1⟩
  refine gX h [3, 0, .f, 0] rfl fun a w h => ?_
  obtain ⟨f, hf⟩ : ∃ f : Int → Nat → Bool → Nat → List Nat → Option (List Nat), f = fun c f0 hb h0 P => vis N k c (l - 1) f0 true h0 hb P := ⟨_, rfl⟩
  rw [← hf]
  obtain ⟨K, hK⟩ : ∃ K, kidsV f hb h0 ps P2 = K := ⟨_, rfl⟩
  rw [hK]
  refine lpG (G := Nat × List Nat × List Pr × Int × Value × Value) (fun g => [(0, .pointer (some ⟨gw, 0, none⟩)), (1, .iface pt pv), (9, .pointer (some ⟨g9, 0, none⟩)), (10, .pointer (some ⟨g10, 0, none⟩)), (77, .slice (some ⟨b, 0, none⟩) ps.length c), (78, .int .i64 ps.length), (79, .int .i64 g.1)])
    (fun g => tBlk g10 46 ⟨[.int .i64 l, .slice (some ⟨b, 0, none⟩) ps.length c]⟩ :: tPs (.slice (some ⟨b, 0, none⟩) ps.length c) ps :: tBlk g9 179 ⟨[.int .u64 f0, .bool fb, .int .u64 h0, .bool hb]⟩ :: wkB gw g.2.2.2.2.1 g.2.2.2.2.2 g.2.2.2.1 :: tNs g.2.2.2.2.1 g.2.1 :: tPs g.2.2.2.2.2 g.2.2.1 :: R)
    (fun g => g.1 ≤ ps.length ∧ WkI g.2.1 g.2.2.1 ∧ ((g.2.2.2.1 = 0 ∧ K = kidsV f hb h0 (ps.drop g.1) g.2.1) ∨ (g.2.2.2.1 = 3 ∧ K = none))) (fun g => ps.length - g.1) (0, P2, Q, 0, _, _) h ⟨rfl, rfl, rfl, rfl, rfl, rfl, rfl, trivial⟩ h.O ⟨Nat.zero_le _, hI2, .inl ⟨rfl, hK.symm⟩⟩ fun g ⟨hi, hI3, hor⟩ a w h => ?_
  obtain ⟨i, P3, Q3, er, v1, v2⟩ := g
  simp only at hi hI3 hor h ⊢
  clear hI hplen hI2 hP2 hK
  by_cases h1 : i < ps.length
  · obtain ⟨x, hx0⟩ : ∃ x, ps[i]? = some x := ⟨_, List.getElem?_eq_getElem h1⟩
    have q2 := Z44 hx0
    have hxm := List.mem_of_getElem? hx0
    have hx1 := hx x hxm
    have hx2 := (hv512 (by omega) x hxm).2
    have hdr : ps.drop i = x :: ps.drop (i + 1) := by
      rw [List.drop_eq_getElem_cons h1]
      rw [List.getElem?_eq_getElem h1] at hx0
      cases hx0; rfl
    have hkk : (0 ≤ l - 1 → l - 1 < (k : Int)) ∧ (l - 1 < 0 → 8 ≤ k) := by omega
    refine gX h [.t, vj (2 * i), 1, .v (.agg ⟨[.int .u64 (x.1 : Nat), .int .u64 (x.2 : Nat)]⟩)] rfl fun a w h => ?_
    refine gW h rfl fun g13 a w E h => ?_
    refine gX h [0, 0, 3, 3] rfl fun a w h => ?_
    refine gW h rfl fun g14 a w E h => ?_
    by_cases h2 : i + 1 < ps.length
    · obtain ⟨y, hy0⟩ : ∃ y, ps[i + 1]? = some y := ⟨_, List.getElem?_eq_getElem h2⟩
      have q3 := flatP_key hy0
      have hy1 := (hx y (List.mem_of_getElem? hy0)).1
      have hdr2 : ps.drop (i + 1) ≠ [] ∧ ((ps.drop (i + 1)).head?.map (·.1)).getD h0 = y.1 := by
        rw [List.head?_drop, hy0]
        exact ⟨fun e => by have := congrArg List.length e; simp at this; omega, rfl⟩
      refine gX h [0, vI (i + 1 : Nat), 2, .t, 2, .v (.slice (some ⟨b, 0, none⟩) ps.length c), vI (i + 1 : Nat), vj (2 * (i + 1)), 3, .v (.int .u64 (y.1 : Nat)), 0, 0, 1, 2, .v (.int .i64 l), vI (l - 1), 0] rfl fun a w h => ?_
      have Op := OwnT.pickR (L := [_, _, _, _, _, _, _, _]) (R := R) h.O [5, 6, 7, 0, 1, 2, 3, 4] (by decide)
      rcases hor with ⟨rfl, hKe⟩ | ⟨rfl, hKe⟩
      · rw [hdr, kidsV, if_neg hdr2.1, hdr2.2, show f (x.2 : Nat) x.1 true y.1 P3 = vis N k (x.2 : Nat) (l - 1) x.1 true y.1 true P3 by rw [hf]] at hKe
        refine gC h rfl (ih (x.2 : Nat) (l - 1) x.1 true y.1 true gw v1 v2 P3 Q3 _ w Op hI3 hkk hx1.1 hy1) ?_
        rintro e w' ⟨rfl, v1', v2', er', P4, Q4, O4, hI4, hres⟩
        refine ⟨_, rfl, _, O4, trivial, fun a h => ?_⟩
        refine gX h [vI (i + 1 : Nat)] rfl fun a w h => ?_
        refine reG (i + 1, P4, Q4, er', v1', v2') h ⟨rfl, rfl, rfl, rfl, rfl, rfl, rfl, trivial⟩ (OwnT.pickR (L := [_, _, _, _, _, _, _, _]) (R := R) h.O [5, 6, 7, 0, 1, 2] (by decide)) ⟨h1, hI4, ?_⟩ (by simp only; omega)
        cases hvis : vis N k (x.2 : Nat) (l - 1) x.1 true y.1 true P3 with
        | none =>
          rw [hvis] at hKe hres
          exact .inr ⟨hres, hKe⟩
        | some P5 =>
          rw [hvis] at hKe hres
          exact .inl ⟨hres.1, by rw [hKe, hres.2]⟩
      · refine gC h rfl (wskipX rfl w Op (by decide)) ?_
        rintro e w' ⟨rfl, O4⟩
        refine ⟨_, rfl, _, O4, trivial, fun a h => ?_⟩
        refine gX h [vI (i + 1 : Nat)] rfl fun a w h => ?_
        exact reG (i + 1, P3, Q3, 3, v1, v2) h ⟨rfl, rfl, rfl, rfl, rfl, rfl, rfl, trivial⟩ (OwnT.pickR (L := [_, _, _, _, _, _, _, _]) (R := R) h.O [5, 6, 7, 0, 1, 2] (by decide)) ⟨h1, hI3, .inr ⟨rfl, hKe⟩⟩ (by simp only; omega)
    · have hdr2 : ps.drop (i + 1) = [] := List.drop_eq_nil_of_le (by omega)
      refine gX h [0, vI (i + 1 : Nat), 2, .f, 1, 2, .v (.int .i64 l), vI (l - 1), 0] rfl fun a w h => ?_
      have Op := OwnT.pickR (L := [_, _, _, _, _, _, _, _]) (R := R) h.O [5, 6, 7, 0, 1, 2, 3, 4] (by decide)
      rcases hor with ⟨rfl, hKe⟩ | ⟨rfl, hKe⟩
      · rw [hdr, kidsV, if_pos hdr2, show ((ps.drop (i + 1)).head?.map (·.1)).getD h0 = h0 by rw [hdr2]; rfl, show f (x.2 : Nat) x.1 hb h0 P3 = vis N k (x.2 : Nat) (l - 1) x.1 true h0 hb P3 by rw [hf]] at hKe
        refine gC h rfl (ih (x.2 : Nat) (l - 1) x.1 true h0 hb gw v1 v2 P3 Q3 _ w Op hI3 hkk hx1.1 hh0) ?_
        rintro e w' ⟨rfl, v1', v2', er', P4, Q4, O4, hI4, hres⟩
        refine ⟨_, rfl, _, O4, trivial, fun a h => ?_⟩
        refine gX h [vI (i + 1 : Nat)] rfl fun a w h => ?_
        refine reG (i + 1, P4, Q4, er', v1', v2') h ⟨rfl, rfl, rfl, rfl, rfl, rfl, rfl, trivial⟩ (OwnT.pickR (L := [_, _, _, _, _, _, _, _]) (R := R) h.O [5, 6, 7, 0, 1, 2] (by decide)) ⟨h1, hI4, ?_⟩ (by simp only; omega)
        cases hvis : vis N k (x.2 : Nat) (l - 1) x.1 true h0 hb P3 with
        | none =>
          rw [hvis] at hKe hres
          exact .inr ⟨hres, hKe⟩
        | some P5 =>
          rw [hvis] at hKe hres
          exact .inl ⟨hres.1, by rw [hKe, hres.2]⟩
      · refine gC h rfl (wskipX rfl w Op (by decide)) ?_
        rintro e w' ⟨rfl, O4⟩
        refine ⟨_, rfl, _, O4, trivial, fun a h => ?_⟩
        refine gX h [vI (i + 1 : Nat)] rfl fun a w h => ?_
        exact reG (i + 1, P3, Q3, 3, v1, v2) h ⟨rfl, rfl, rfl, rfl, rfl, rfl, rfl, trivial⟩ (OwnT.pickR (L := [_, _, _, _, _, _, _, _]) (R := R) h.O [5, 6, 7, 0, 1, 2] (by decide)) ⟨h1, hI3, .inr ⟨rfl, hKe⟩⟩ (by simp only; omega)
  · obtain rfl : i = ps.length := by omega
    refine gX h [.f] rfl fun a w h => ?_
    refine gN h rfl ⟨rfl, v1, v2, er, P3, Q3, OwnT.pickR (L := [_, _, _, _, _, _]) (R := R) h.O [3, 4, 5] (by decide), hI3, ?_⟩
    rw [List.drop_length] at hor
    rcases hor with ⟨rfl, rfl⟩ | ⟨rfl, rfl⟩
    · exact ⟨rfl, rfl⟩
    · rfl
open Go.RowKit Go.Maps

def lkV (m : Mp) (ops : List Oper) (fr : List Nat) (i : Nat) : Option (TypeId × Nat × Int × Bool × Nat) := match nthT ops i with
  | some ⟨some d, .lookup t mo x ok, _, _, _, g⟩ => match gd m ops g [] [] with
    | some (true, [], []) => match memN fr i with
      | false => match opv m mo with
        | some (.map (some b)) => match opv m x with
          | some (.int .i64 c) => some (t, b, c, ok, d)
          | _ => none
        | _ => none
      | true => none
    | _ => none
  | _ => none
def muV (m : Mp) (ops : List Oper) (fr : List Nat) (i : Nat) : Option (TypeId × Nat × Int × Value) := match nthT ops i with
  | some ⟨none, .mapUpdate t mo x v, _, _, _, g⟩ => match gd m ops g [] [] with
    | some (true, [], []) => match memN fr i with
      | false => match opv m mo with
        | some (.map (some b)) => match opv m x with
          | some (.int .i64 c) => match opv m v with
            | some u => some (t, b, c, u)
            | none => none
          | _ => none
        | _ => none
      | true => none
    | _ => none
  | _ => none
/-- What a look-up yields. -/
def lkR (ok : Bool) (o : Option Value) (z : Value) : Value := match ok with
  | false => o.getD z
  | true => .tuple ⟨[o.getD z, .bool o.isSome]⟩
section
variable {fn : Func} {R : Ending → World → Prop} {H n : Nat} {A : World} {m : Mp} {a : Act} {w : World} {ops : List Oper} {fr is : List Nat} {LI : List Thing} {ks : List Kf} {L L' : List Thing} {i : Nat} {t e' b k d : Nat} {c : Int} {f : Int → Option Value}
theorem gL {ok : Bool} {z v : Value} (h : Hold H A L n m (.s ops fr LI (i :: is)) a w) (e : lkV m ops fr i = some (t, b, c, ok, d)) (j : Nat) (hj : L[j]? = some (tMap b k f)) (ht : Try.prog.underlying t = some (.map 3 e')) (hz : ∀ w, (zeroValue e').run Try.prog w = .ok z w) (hc : wfV c) (hv : lkR ok (f c) z = v)
    (hn : ∀ a, Hold H A L n ((d, v) :: m) (.s ops fr LI is) a w → At Try.prog fn R ks (.s ops fr LI is) a w) (hb : Nat.blt d n = true := by rfl) : At Try.prog fn R ks (.s ops fr LI (i :: is)) a w := by
  unfold lkV at e
  split at e
  case h_2 => cases e
  rename_i d' t' mo x ok' ty pos af g hi
  split at e
  case h_2 => cases e
  rename_i hg
  split at e
  case h_2 => cases e
  rename_i hmm
  split at e
  case h_2 => cases e
  rename_i b' hmo
  split at e
  case h_2 => cases e
  rename_i c' hx
  cases e
  have hV : VM w b k f := (h.O.all.mem (List.mem_of_getElem? hj) : (tMap b k f).holds w)
  refine spG (o := ⟨some d, .lookup t mo x ok, ty, pos, af, g⟩) (v := v) h [] hi rfl hg ?_ h.O h.J hn hmm trivial hb
  subst hv
  cases ok with
  | false => simp [execOp, h.M.opv _ _ hmo, h.M.opv _ _ hx, hV.look ht (hz w) hc, lkR]
  | true => simp [execOp, h.M.opv _ _ hmo, h.M.opv _ _ hx, hV.look_ok ht (hz w) hc, lkR]
theorem gM {u : Value} (h : Hold H A L n m (.s ops fr LI (i :: is)) a w) (e : muV m ops fr i = some (t, b, c, u)) (j : Nat) (hj : L[j]? = some (tMap b k f)) (hL : setTh L j (tMap b (k + 1) (putV f c u)) = some L') (ht : Try.prog.underlying t = some (.map 3 e')) (hk : k < maxLen) (hc : wfV c) (hI : ∀ w', OwnT H A L' w' → Ths w' LI)
    (hn : ∀ a w', Hold H A L' n m (.s ops fr LI is) a w' → At Try.prog fn R ks (.s ops fr LI is) a w') : At Try.prog fn R ks (.s ops fr LI (i :: is)) a w := by
  unfold muV at e
  split at e
  case h_2 => cases e
  rename_i t' mo x v ty pos af g hi
  split at e
  case h_2 => cases e
  rename_i hg
  split at e
  case h_2 => cases e
  rename_i hmm
  split at e
  case h_2 => cases e
  rename_i b' hmo
  split at e
  case h_2 => cases e
  rename_i c' hx
  split at e
  case h_2 => cases e
  rename_i u' hu
  cases e
  have hV : VM w b k f := (h.O.all.mem (List.mem_of_getElem? hj) : (tMap b k f).holds w)
  obtain ⟨w', hrun, hV', hC⟩ := hV.store ht hk hc u
  have O1 := OwnT.pull h.O j hj
  have O2 : OwnT H A (tMap b (k + 1) (putV f c u) :: L.eraseIdx j) w' := O1.call hC (fun i hi => by simpa [tMap] using hi) (tMap b (k + 1) (putV f c u)) hV' (fun i hi => .inl hi)
  have O3 := OwnT.push j hj O2
  rw [← Z3n _ _ _ _ hL] at O3
  refine suG (o := ⟨none, .mapUpdate t mo x v, ty, pos, af, g⟩) h [] hi rfl hg ?_ O3 (hI _ O3) (fun a' hh => hn a' w' hh) hmm trivial
  simp [execOp, h.M.opv _ _ hmo, h.M.opv _ _ hx, h.M.opv _ _ hu, hrun]
def mkV (ops : List Oper) (m : Mp) (fr : List Nat) (i : Nat) : Option (TypeId × Nat) := match nthT ops i with
  | some ⟨some d, .makeMap t none, _, _, _, g⟩ => match gd m ops g [] [] with
    | some (true, [], []) => match memN fr i with
      | false => some (t, d)
      | true => none
    | _ => none
  | _ => none
/-- A new map. -/
theorem gK (h : Hold H A L n m (.s ops fr LI (i :: is)) a w) (e : mkV ops m fr i = some (t, d)) (hI : ∀ w', Ext w w' → Ths w LI → Ths w' LI)
    (hn : ∀ g a w', Ext w w' → Hold H A (tMap g 0 (fun _ => none) :: L) n ((d, .map (some g)) :: m) (.s ops fr LI is) a w' → At Try.prog fn R ks (.s ops fr LI is) a w') (hb : Nat.blt d n = true := by rfl) : At Try.prog fn R ks (.s ops fr LI (i :: is)) a w := by
  unfold mkV at e
  split at e
  case h_2 => cases e
  rename_i d' t' ty pos af g hi
  split at e
  case h_2 => cases e
  rename_i hg
  split at e
  case h_2 => cases e
  rename_i hmm
  cases e
  have hE := Ext.alloc w (.map #[] 0)
  have O' : OwnT H A (tMap w.heap.size 0 (fun _ => none) :: L) (w.alloc (.map #[] 0)) := h.O.cons hE (tMap w.heap.size 0 (fun _ => none)) (VM.made w) (fun i hi => by simp [tMap] at hi; omega)
  refine spG (o := ⟨some d, .makeMap t none, ty, pos, af, g⟩) h [] hi rfl hg ?_ O' (hI _ hE h.J) (fun a' hh => hn _ a' _ hE hh) hmm trivial hb
  simp [execOp, @run_makeMap Try.prog]
end
/-! Sums over the numbers 1 .. 1023. -/
def sumL : List Nat → Nat
  | [] => 0
  | x :: l => x + sumL l
theorem Z4y : ∀ (a b : List Nat), sumL (a ++ b) = sumL a + sumL b
  | [], b => by simp [sumL]
  | x :: a, b => by rw [List.cons_append, sumL, sumL, Z4y a b]; omega
def sumN (f : Nat → Nat) : Nat → Nat
  | 0 => 0
  | n + 1 => sumN f n + f (n + 1)
theorem Z38 {f g : Nat → Nat} : ∀ (n : Nat), (∀ i, 1 ≤ i → i ≤ n → f i = g i) → sumN f n = sumN g n
  | 0, _ => rfl
  | n + 1, h => by rw [sumN, sumN, Z38 n (fun i h1 h2 => h i h1 (by omega)), h (n + 1) (by omega) (Nat.le_refl _)]
theorem Z7i (f g : Nat → Nat) : ∀ (n : Nat), sumN (fun i => f i + g i) n = sumN f n + sumN g n
  | 0 => rfl
  | n + 1 => by rw [sumN, sumN, sumN, Z7i f g n]; omega
theorem Z5u : ∀ (n : Nat), sumN (fun _ => 0) n = 0
  | 0 => rfl
  | n + 1 => by rw [sumN, Z5u n]
theorem Z4x {p k : Nat} (hp : 1 ≤ p) : ∀ (n : Nat), sumN (fun i => if i = p then k else 0) n = if p ≤ n then k else 0
  | 0 => by rw [if_neg (by omega)]; rfl
  | n + 1 => by
    rw [sumN, Z4x hp n]
    by_cases e : n + 1 = p
    · rw [if_pos e, if_neg (by omega), if_pos (by omega)]; omega
    · rw [if_neg e]
      by_cases h : p ≤ n
      · rw [if_pos h, if_pos (by omega)]; rfl
      · rw [if_neg h, if_neg (by omega)]
theorem Z3k {f : Nat → Nat} : ∀ (n : Nat), sumN f n ≠ 0 ↔ ∃ i, 1 ≤ i ∧ i ≤ n ∧ f i ≠ 0
  | 0 => ⟨fun h => absurd rfl h, fun ⟨i, h1, h2, _⟩ => by omega⟩
  | n + 1 => by
    rw [sumN]
    constructor
    · intro h
      by_cases e : sumN f n = 0
      · exact ⟨n + 1, by omega, Nat.le_refl _, by omega⟩
      · obtain ⟨i, h1, h2, h3⟩ := (Z3k n).1 e
        exact ⟨i, h1, by omega, h3⟩
    · rintro ⟨i, h1, h2, h3⟩
      by_cases e : i = n + 1
      · subst e; omega
      · have := (Z3k n).2 ⟨i, h1, by omega, h3⟩
        omega
/-! Counts. -/
/-- How often a node leads to a page. -/
def cntX (xs : List Pr) (q : Nat) : Nat := xs.countP fun x => decide (x.2 = q)
def cntIn (N : List Nd) (p q : Nat) : Nat := match ndAt N p with
  | some (l, xs) => if l = 0 then 0 else cntX xs q
  | none => 0
/-- How often pages are led to: by roots, and by the nodes that were gone through. -/
def ldF (N : List Nd) (rs : List Nat) (sn : Nat → Bool) (q : Nat) : Nat := rs.countP (fun r => decide (r = q)) + sumN (fun p => if sn p then cntIn N p q else 0) 1023
def insB (p : Nat) (sn : Nat → Bool) : Nat → Bool := fun i => decide (i = p) || sn i
def unB (g : List Nat) (sn : Nat → Bool) : Nat → Bool := fun i => decide (i ∈ g) || sn i
theorem insB_seen {p : Nat} {sn : Nat → Bool} (h : sn p = true) : insB p sn = sn := by
  funext i
  unfold insB
  by_cases e : i = p
  · subst e; rw [h, Bool.or_true]
  · rw [decide_eq_false e, Bool.false_or]
theorem unB_nil (sn : Nat → Bool) : unB [] sn = sn := by funext i; simp [unB]
theorem unB_step {g : List Nat} {j p : Nat} (sn : Nat → Bool) (h : g[j]? = some p) : insB p (unB (g.take j) sn) = unB (g.take (j + 1)) sn := by
  funext i
  unfold insB unB
  rw [List.take_add_one, h]
  by_cases e : i = p <;> by_cases e2 : i ∈ g.take j <;> simp [e, e2]
theorem ldF_root (N : List Nd) (rs : List Nat) (sn : Nat → Bool) (r : Nat) : ldF N (rs ++ [r]) sn = fun q => if q = r then ldF N rs sn r + 1 else ldF N rs sn q := by
  funext q
  unfold ldF
  rw [List.countP_append]
  by_cases e : q = r
  · subst e
    rw [if_pos rfl]
    simp [List.countP_cons]
    omega
  · have e' : ¬ r = q := fun h => e h.symm
    rw [if_neg e]
    simp [List.countP_cons, e']
theorem Z7x {N : List Nd} {rs : List Nat} {sn : Nat → Bool} {p : Nat} (h : sn p = false) (h1 : 1 ≤ p) (h2 : p ≤ 1023) (q : Nat) : ldF N rs (insB p sn) q = ldF N rs sn q + cntIn N p q := by
  unfold ldF
  have e1 : sumN (fun i => if insB p sn i = true then cntIn N i q else 0) 1023 = sumN (fun i => (if sn i then cntIn N i q else 0) + (if i = p then cntIn N p q else 0)) 1023 := Z38 1023 fun i _ _ => by
    unfold insB
    by_cases e : i = p
    · subst e; simp [h]
    · simp [e]
  have e2 : sumN (fun i => if i = p then cntIn N p q else 0) 1023 = cntIn N p q := by rw [Z4x h1, if_pos h2]
  rw [e1, Z7i, e2, Nat.add_assoc]
def SnOk (N : List Nd) (sn : Nat → Bool) : Prop := ∀ p, sn p = true → ∃ l xs, ndAt N p = some (l, xs) ∧ xs.length ≤ 15
theorem sumN_le {f : Nat → Nat} {k : Nat} : ∀ (n : Nat), (∀ i, f i ≤ k) → sumN f n ≤ n * k
  | 0, _ => by simp [sumN]
  | n + 1, h => by
    have h1 := sumN_le n h
    have h2 := h (n + 1)
    rw [sumN, Nat.succ_mul]
    omega
theorem ldF_le {N : List Nd} {rs : List Nat} {sn : Nat → Bool} (h : SnOk N sn) (q : Nat) : ldF N rs sn q ≤ rs.length + 1023 * 15 := by
  unfold ldF
  have h1 := List.countP_le_length (p := fun r => decide (r = q)) (l := rs)
  have h2 : sumN (fun p => if sn p = true then cntIn N p q else 0) 1023 ≤ 1023 * 15 := sumN_le 1023 fun i => by
    show (if sn i = true then cntIn N i q else 0) ≤ 15
    split
    · rename_i hs
      obtain ⟨l, xs, e1, e2⟩ := h i hs
      unfold cntIn
      rw [e1]
      show (if l = 0 then 0 else cntX xs q) ≤ 15
      split
      · omega
      · exact Nat.le_trans List.countP_le_length e2
    · omega
  exact Nat.add_le_add h1 h2
theorem SnOk.un {N : List Nd} {sn : Nat → Bool} {g : List Nat} (h : SnOk N sn) (hg : ∀ z ∈ g, ∃ l xs, ndAt N z = some (l, xs) ∧ xs.length ≤ 15) : SnOk N (unB g sn) := fun p hp => by
  unfold unB at hp
  rcases Bool.or_eq_true_iff.1 hp with h1 | h1
  · exact hg p (of_decide_eq_true h1)
  · exact h p h1
/-- Behind so many pairs of a node. -/
def addX (f : Nat → Nat) (xs : List Pr) (j : Nat) : Nat → Nat := fun q => f q + cntX (xs.take j) q
theorem addX_zero (f : Nat → Nat) (xs : List Pr) : addX f xs 0 = f := by funext q; simp [addX, cntX]
theorem addX_step (f : Nat → Nat) {xs : List Pr} {j : Nat} {y : Pr} (h : xs[j]? = some y) : (fun q => if q = y.2 then addX f xs j y.2 + 1 else addX f xs j q) = addX f xs (j + 1) := by
  funext q
  unfold addX cntX
  rw [List.take_add_one, h, List.countP_append]
  by_cases e : q = y.2
  · subst e
    rw [if_pos rfl]
    simp [List.countP_cons]
    omega
  · have e' : ¬ y.2 = q := fun h => e h.symm
    rw [if_neg e]
    simp [List.countP_cons, e']
theorem ldF_leaf {N : List Nd} {rs : List Nat} {sn : Nat → Bool} {p : Nat} {xs : List Pr} (h : sn p = false) (h1 : 1 ≤ p) (h2 : p ≤ 1023) (hn : ndAt N p = some (0, xs)) : ldF N rs (insB p sn) = ldF N rs sn := by
  funext q
  rw [Z7x h h1 h2]
  unfold cntIn
  rw [hn]
  rfl
theorem ldF_inner {N : List Nd} {rs : List Nat} {sn : Nat → Bool} {p l : Nat} {xs : List Pr} (h : sn p = false) (h1 : 1 ≤ p) (h2 : p ≤ 1023) (hn : ndAt N p = some (l, xs)) (hl : l ≠ 0) : ldF N rs (insB p sn) = addX (ldF N rs sn) xs xs.length := by
  funext q
  rw [Z7x h h1 h2]
  unfold cntIn addX
  rw [hn, List.take_length]
  show _ + (if l = 0 then 0 else cntX xs q) = _
  rw [if_neg hl]
/-! As maps. -/
def mapL (f : Nat → Nat) : Int → Option Value := fun i => if 1 ≤ i ∧ f i.toNat ≠ 0 then some (.int .i64 (f i.toNat : Nat)) else none
def mapS (sn : Nat → Bool) : Int → Option Value := fun i => if 1 ≤ i ∧ sn i.toNat = true then some (.bool true) else none
theorem Z1v (f : Nat → Nat) {q : Nat} (hq : 1 ≤ q) : (mapL f (q : Int)).getD (.int .i64 0) = .int .i64 (f q : Nat) := by
  unfold mapL
  rw [Int.toNat_natCast]
  by_cases e : f q = 0
  · rw [if_neg (by simp [e]), e]; rfl
  · rw [if_pos ⟨by omega, e⟩]; rfl
theorem Z42 (sn : Nat → Bool) {q : Nat} (hq : 1 ≤ q) : (mapS sn (q : Int)).getD (.bool false) = .bool (sn q) := by
  unfold mapS
  rw [Int.toNat_natCast]
  cases e : sn q with
  | false => rw [if_neg (by simp)]; rfl
  | true => rw [if_pos ⟨by omega, rfl⟩]; rfl
theorem Z5e (f : Nat → Nat) {q v : Nat} (hq : 1 ≤ q) (hv : v ≠ 0) : putV (mapL f) (q : Int) (.int .i64 (v : Nat)) = mapL (fun i => if i = q then v else f i) := by
  funext i
  unfold putV mapL
  by_cases e : i = (q : Int)
  · subst e
    rw [if_pos rfl, Int.toNat_natCast]
    show _ = if 1 ≤ (q : Int) ∧ (if q = q then v else f q) ≠ 0 then some (Value.int .i64 ((if q = q then v else f q : Nat) : Int)) else none
    rw [if_pos (show q = q from rfl), if_pos ⟨by omega, hv⟩]
  · rw [if_neg e]
    by_cases h : 1 ≤ i
    · have e2 : ¬ i.toNat = q := by omega
      show _ = if 1 ≤ i ∧ (if i.toNat = q then v else f i.toNat) ≠ 0 then some (Value.int .i64 ((if i.toNat = q then v else f i.toNat : Nat) : Int)) else none
      rw [if_neg e2]
    · rw [if_neg (fun x => h x.1), if_neg (fun x => h x.1)]
theorem Z7u (sn : Nat → Bool) {q : Nat} (hq : 1 ≤ q) : putV (mapS sn) (q : Int) (.bool true) = mapS (insB q sn) := by
  funext i
  unfold putV mapS insB
  by_cases e : i = (q : Int)
  · subst e
    rw [if_pos rfl, Int.toNat_natCast, if_pos ⟨by omega, by simp⟩]
  · rw [if_neg e]
    by_cases h : 1 ≤ i
    · have e2 : ¬ i.toNat = q := by omega
      rw [decide_eq_false e2, Bool.false_or]
    · rw [if_neg (fun x => h x.1), if_neg (fun x => h x.1)]
theorem mapL_nil (N : List Nd) : mapL (ldF N [] fun _ => false) = fun _ => none := by
  funext i
  unfold mapL ldF
  rw [if_neg]
  rintro ⟨_, h⟩
  refine h ?_
  show 0 + sumN (fun _ => 0) 1023 = 0
  rw [Z5u]
theorem mapS_nil : mapS (fun _ => false) = fun _ => none := by
  funext i
  unfold mapS
  rw [if_neg (fun h => by cases h.2)]
/-! Sound trees: a page is the root, or an inner one leads to it. -/
theorem Kids.down {T : Nat → List (List Pr) → List Nat → Prop} (hT : ∀ p L g, T p L g → p ∈ g) : ∀ {xs : List Pr} {L : List (List Pr)} {g : List Nat}, Kids T xs L g → ∀ x ∈ xs, x.2 ∈ g
  | [], _, _, _, x, hx => by cases hx
  | y :: xs, _, _, ⟨L1, g1, L2, g2, h1, h2, h3, rfl, rfl⟩, x, hx => by
    rcases List.mem_cons.1 hx with rfl | hx
    · exact List.mem_append_left _ (hT _ _ _ h1)
    · exact List.mem_append_right _ (h3.down hT x hx)
theorem Kids.sub {T : Nat → List (List Pr) → List Nat → Prop} : ∀ {xs : List Pr} {L : List (List Pr)} {g : List Nat}, Kids T xs L g → ∀ q ∈ g, ∃ x ∈ xs, ∃ L1 g1, T x.2 L1 g1 ∧ q ∈ g1 ∧ ∀ z ∈ g1, z ∈ g
  | [], _, _, ⟨_, rfl⟩, q, hq => by cases hq
  | y :: xs, _, _, ⟨L1, g1, L2, g2, h1, h2, h3, rfl, rfl⟩, q, hq => by
    rcases List.mem_append.1 hq with hq | hq
    · exact ⟨y, by simp, L1, g1, h1, hq, fun z hz => List.mem_append_left _ hz⟩
    · obtain ⟨x, hx, L', g', k1, k2, k3⟩ := h3.sub q hq
      exact ⟨x, by simp [hx], L', g', k1, k2, fun z hz => List.mem_append_right _ (k3 z hz)⟩
theorem Tr.self {N : List Nd} {l p : Nat} {L : List (List Pr)} {g : List Nat} (h : Tr N l p L g) : p ∈ g := by
  obtain ⟨r, e⟩ := Tr.one h
  rw [e]
  exact List.mem_cons_self
/-- Each page is a node; an inner one leads to pages. -/
theorem Tr.closed {N : List Nd} : ∀ {l p : Nat} {L : List (List Pr)} {g : List Nat}, Tr N l p L g → ∀ z ∈ g, ∃ l' xs, ndAt N z = some (l', xs) ∧ xs.length ≤ 15 ∧ (l' ≠ 0 → ∀ x ∈ xs, x.2 ∈ g)
  | 0, p, L, g, ⟨xs, h, h1, h2, h3, h4, h5⟩, z, hz => by
    obtain ⟨_, rfl⟩ := Z0f.1 h4
    rw [h5] at hz
    obtain rfl := List.mem_singleton.1 hz
    exact ⟨0, xs, h1, h3, fun h => absurd rfl h⟩
  | l + 1, p, L, g, ⟨xs, h, h1, h2, h3, h4, h5⟩, z, hz => by
    have hk := Z0i.1 h4
    subst h5
    rcases List.mem_cons.1 hz with rfl | hz
    · exact ⟨l + 1, xs, h1, h3, fun _ x hx => List.mem_cons_of_mem _ (hk.down (fun p L g h => Tr.self h) x hx)⟩
    · obtain ⟨x, hx, L1, g1, k1, k2, k3⟩ := hk.sub z hz
      obtain ⟨l', xs', e1, e2, e3⟩ := Tr.closed k1 z k2
      exact ⟨l', xs', e1, e2, fun h0 y hy => List.mem_cons_of_mem _ (k3 _ (e3 h0 y hy))⟩
theorem Tr.from_ {N : List Nd} : ∀ {l p : Nat} {L : List (List Pr)} {g : List Nat}, Tr N l p L g → ∀ q ∈ g, q = p ∨ ∃ z ∈ g, ∃ l' xs, ndAt N z = some (l', xs) ∧ l' ≠ 0 ∧ ∃ x ∈ xs, x.2 = q
  | 0, p, L, g, ⟨xs, h, h1, h2, h3, h4, h5⟩, q, hq => by
    obtain ⟨_, rfl⟩ := Z0f.1 h4
    rw [h5] at hq
    exact .inl (List.mem_singleton.1 hq)
  | l + 1, p, L, g, ⟨xs, h, h1, h2, h3, h4, h5⟩, q, hq => by
    have hk := Z0i.1 h4
    subst h5
    rcases List.mem_cons.1 hq with rfl | hq
    · exact .inl rfl
    · obtain ⟨x, hx, L1, g1, k1, k2, k3⟩ := hk.sub q hq
      rcases Tr.from_ k1 q k2 with e | ⟨z, hz, l', xs', e1, e2, e3⟩
      · exact .inr ⟨p, List.mem_cons_self, l + 1, xs, h1, by omega, x, hx, e.symm⟩
      · exact .inr ⟨z, List.mem_cons_of_mem _ (k3 z hz), l', xs', e1, e2, e3⟩
/-! Several trees. -/
/-- Roots and the pages of their trees. -/
abbrev Tg := List (Nat × List Nat)
def TgOk (N : List Nd) (tg : Tg) : Prop := ∀ x ∈ tg, ∃ m L, RT m N x.1 L x.2 ∧ m ≤ 7 ∧ x.2.length ≤ 600 ∧ L.flatten.length ≤ 100000
def snF (tg : Tg) : Nat → Bool := fun i => tg.any fun x => decide (i ∈ x.2)
def rsF (tg : Tg) : List Nat := (tg.map Prod.fst).filter fun r => decide (r ≠ 0)
theorem snF_app (tg : Tg) (x : Nat × List Nat) : snF (tg ++ [x]) = unB x.2 (snF tg) := by
  funext i
  simp [snF, unB, Bool.or_comm]
theorem rsF_app (tg : Tg) (x : Nat × List Nat) : rsF (tg ++ [x]) = if x.1 = 0 then rsF tg else rsF tg ++ [x.1] := by
  unfold rsF
  rw [List.map_append, List.filter_append]
  by_cases e : x.1 = 0
  · rw [if_pos e]; simp [e]
  · rw [if_neg e]; simp [e]
theorem snF_rng {N : List Nd} {tg : Tg} (h : TgOk N tg) {i : Nat} (hi : snF tg i = true) : 1 ≤ i ∧ i ≤ N.length := by
  obtain ⟨x, hx, hm⟩ := List.any_eq_true.1 hi
  obtain ⟨m, L, hR, _⟩ := h x hx
  rcases hR.rt with ⟨_, _, e⟩ | ⟨l, _, hT, _⟩
  · rw [e] at hm; cases of_decide_eq_true hm
  · exact Tr.pages hT i (of_decide_eq_true hm)
/-- Those that are led to are the pages. -/
theorem ld_pages {N : List Nd} {tg : Tg} (h : TgOk N tg) (hN : N.length ≤ 1023) (q : Nat) : ldF N (rsF tg) (snF tg) q ≠ 0 ↔ snF tg q = true := by
  constructor
  · intro h0
    unfold ldF at h0
    by_cases e : (rsF tg).countP (fun r => decide (r = q)) = 0
    · have h1 : sumN (fun p => if snF tg p then cntIn N p q else 0) 1023 ≠ 0 := by omega
      obtain ⟨p, _, _, hp⟩ := (Z3k 1023).1 h1
      cases hs : snF tg p with
      | false => rw [hs] at hp; exact absurd rfl hp
      | true =>
        rw [hs, if_pos rfl] at hp
        obtain ⟨x, hx, hm⟩ := List.any_eq_true.1 hs
        obtain ⟨m, L, hR, _⟩ := h x hx
        rcases hR.rt with ⟨_, _, e⟩ | ⟨l, _, hT, _⟩
        · rw [e] at hm; cases of_decide_eq_true hm
        · obtain ⟨l', xs, e1, _, e3⟩ := Tr.closed hT p (of_decide_eq_true hm)
          unfold cntIn at hp
          rw [e1] at hp
          by_cases hl : l' = 0
          · exact absurd (if_pos hl) hp
          · have hp : (if l' = 0 then 0 else cntX xs q) ≠ 0 := hp
            rw [if_neg hl] at hp
            obtain ⟨y, hy, hyq⟩ := List.countP_pos_iff.1 (Nat.pos_of_ne_zero hp)
            have := e3 hl y hy
            rw [of_decide_eq_true hyq] at this
            exact List.any_eq_true.2 ⟨x, hx, decide_eq_true this⟩
    · obtain ⟨r, hr, hrq⟩ := List.countP_pos_iff.1 (Nat.pos_of_ne_zero e)
      obtain rfl := of_decide_eq_true hrq
      obtain ⟨hr1, hr2⟩ := List.mem_filter.1 hr
      obtain ⟨x, hx, rfl⟩ := List.mem_map.1 hr1
      obtain ⟨m, L, hR, _⟩ := h x hx
      rcases hR.rt with ⟨e, _, _⟩ | ⟨l, _, hT, _⟩
      · rw [e] at hr2; simp at hr2
      · exact List.any_eq_true.2 ⟨x, hx, decide_eq_true (Tr.self hT)⟩
  · intro hs
    obtain ⟨x, hx, hm⟩ := List.any_eq_true.1 hs
    have hm := of_decide_eq_true hm
    obtain ⟨m, L, hR, _⟩ := h x hx
    rcases hR.rt with ⟨_, _, e⟩ | ⟨l, _, hT, _⟩
    · rw [e] at hm; cases hm
    · have hxr := Tr.pages hT x.1 (Tr.self hT)
      unfold ldF
      rcases Tr.from_ hT q hm with rfl | ⟨z, hz, l', xs, e1, e2, y, hy, hyq⟩
      · have : 0 < (rsF tg).countP (fun r => decide (r = x.1)) := List.countP_pos_iff.2 ⟨x.1, List.mem_filter.2 ⟨List.mem_map.2 ⟨x, hx, rfl⟩, decide_eq_true (by omega)⟩, by simp⟩
        omega
      · have hzr := Tr.pages hT z hz
        have : sumN (fun p => if snF tg p then cntIn N p q else 0) 1023 ≠ 0 := (Z3k 1023).2 ⟨z, hzr.1, by omega, by
          rw [if_pos (show snF tg z = true from List.any_eq_true.2 ⟨x, hx, decide_eq_true hz⟩)]
          unfold cntIn
          rw [e1]
          show (if l' = 0 then 0 else cntX xs q) ≠ 0
          rw [if_neg e2]
          have : 0 < cntX xs q := List.countP_pos_iff.2 ⟨y, hy, decide_eq_true hyq⟩
          omega⟩
        omega
/-- The pages, rising. -/
def keysN (sn : Nat → Bool) : List Nat := ((List.range 1023).map (· + 1)).filter sn
theorem Z68 {sn : Nat → Bool} {q : Nat} : q ∈ keysN sn ↔ (1 ≤ q ∧ q ≤ 1023) ∧ sn q = true := by
  unfold keysN
  rw [List.mem_filter, List.mem_map]
  refine and_congr_left fun _ => ⟨?_, fun h => ⟨q - 1, by rw [List.mem_range]; omega, by omega⟩⟩
  rintro ⟨i, hi, rfl⟩
  rw [List.mem_range] at hi
  omega
theorem Z3g (sn : Nat → Bool) : (keysN sn).Pairwise (fun a b => a < b) :=
  List.Pairwise.filter _ (by rw [List.pairwise_map]; exact List.pairwise_lt_range.imp (fun {a b} h => by omega))
theorem Z30 (sn : Nat → Bool) : (keysN sn).length ≤ 1023 := by
  have := List.length_filter_le sn ((List.range 1023).map (· + 1))
  simpa [keysN] using this

/-- The pages of a tree, each ahead of those to which it leads; none: it isn't sound. -/
def reachV (N : Nfn) (root : Int) : Option (List Nat) := if root = 0 then some [] else vis N 8 root (-1) 0 false 0 false []
theorem tns0 {w : World} : (tNs (.slice none 0 0) []).holds w := World.ownsRow_nil _ _ _ _
theorem tps0 {w : World} : (tPs (.slice none 0 0) []).holds w := World.ownsRow_nil _ _ _ _
set_option maxRecDepth 10000 in
theorem tallX {A : World} {p : Value} {N : Nfn} (hR : Reads A p N) (hpv : ∃ t v, p = .iface t v) (root : Int) (w0 : World) (hE : Ext A w0) :
    Calls Try.prog 78 #[p, .int .i64 root] w0 fun e w' => ∃ (gw : Nat) (v1 v2 : Value) (er : Int) (P : List Nat) (Q : List Pr), e = .returned (.pointer (some ⟨gw, 0, none⟩)) ∧ OwnT w0.heap.size w0 [wkB gw v1 v2 er, tNs v1 P, tPs v2 Q] w' ∧ P.length ≤ 1024 ∧ match reachV N root with
      | none => er = 3
      | some P2 => er = 0 ∧ P = P2 := by
  obtain ⟨pt, pv, rfl⟩ := hpv
  refine fnG (OwnT.start w0) 16 Try.func78 rfl rfl rfl fun a h => ?_
  refine gX h [] rfl fun a w h => ?_
  refine gW h rfl fun gw a w E h => ?_
  have hp := h.O.pickR (L := [_]) (R := []) [0] (by decide)
  have O3 : OwnT w0.heap.size w0 [wkB gw (.slice none 0 0) (.slice none 0 0) 0, tNs (.slice none 0 0) [], tPs (.slice none 0 0) []] w :=
    (((hp.cons (Ext.refl _) (tNs (.slice none 0 0) []) tns0 (fun i hi => by simp [tRow, Value.ownBlock] at hi)).cons (Ext.refl _) (tPs (.slice none 0 0) []) tps0 (fun i hi => by simp [tRow, Value.ownBlock] at hi)).pickR (L := [_, _, _]) (R := []) [2, 1, 0] (by decide))
  unfold reachV
  by_cases h0 : root = 0
  · rw [if_pos h0]
    refine gX (h.with O3) [.f] rfl fun a w h => ?_
    exact gR h rfl ⟨gw, _, _, 0, [], [], rfl, h.O, by simp, rfl, rfl⟩
  · rw [if_neg h0]
    refine gX (h.with O3) [.t] rfl fun a w h => ?_
    refine gC h rfl (wnodeX (A := w0) (hR.ext hE) ⟨pt, pv, rfl⟩ 8 root (-1) 0 false 0 false gw _ _ [] [] [] w h.O ⟨by simp, by simp, by simp⟩ (by omega) (by omega) (by omega)) ?_
    rintro e w' ⟨rfl, v1, v2, er, P, Q, O4, hI, hres⟩
    refine ⟨_, rfl, _, O4, trivial, fun a h => ?_⟩
    refine gX h [] rfl fun a w h => ?_
    exact gR h rfl ⟨gw, v1, v2, er, P, Q, rfl, h.O, hI.len, hres⟩
set_option maxRecDepth 10000 in
theorem treachX {A : World} {p : Value} {N : Nfn} (hR : Reads A p N) (hpv : ∃ t v, p = .iface t v) (root : Int) (w0 : World) (hE : Ext A w0) :
    Calls Try.prog 61 #[p, .int .i64 root] w0 fun e w' => match reachV N root with
      | none => e = .returned (.tuple ⟨[.slice none 0 0, .int .i64 3]⟩) ∧ Ext w0 w'
      | some P => P.length ≤ 1024 ∧ ∃ v, e = .returned (.tuple ⟨[v, .int .i64 0]⟩) ∧ OwnT w0.heap.size w0 [tNs v P] w' := by
  obtain ⟨pt, pv, rfl⟩ := hpv
  refine fnG (OwnT.start w0) 23 Try.func61 rfl rfl rfl fun a h => ?_
  refine gX h [] rfl fun a w h => ?_
  refine gC h rfl (tallX (hR.ext hE) ⟨pt, pv, rfl⟩ root w h.O.below) ?_
  rintro e w' ⟨gw, v1, v2, er, P, Q, rfl, O2, hl, hres⟩
  refine ⟨_, rfl, _, h.O.graft O2, trivial, fun a h => ?_⟩
  obtain ⟨B1, c1, rfl⟩ := Z0c (show w'.ownsRow 0 _ _ _ _ _ from O2.all.2.1)
  cases hv : reachV N root with
  | none =>
    rw [hv] at hres
    subst hres
    refine gX h [0, .t, .k [0]] rfl fun a w h => ?_
    refine gX h [0] rfl fun a w h => ?_
    exact gR h rfl ⟨rfl, h.O.below⟩
  | some P2 =>
    rw [hv] at hres
    obtain ⟨rfl, rfl⟩ := hres
    refine gX h [0, .f, 0] rfl fun a w h => ?_
    exact gR h rfl ⟨hl, _, rfl, h.O.sub (.cons _ (.cons_cons _ (.cons _ (List.Sublist.refl _))))⟩
/-! How often pages are led to, and which were gone through. -/
def cn (E : List Nat) : Nat → Nat := fun q => E.count q
def sen (S : List Nat) : Nat → Bool := fun q => decide (q ∈ S)
abbrev tCs (cb lb sm : Nat) (E S : List Nat) : List Thing := [tBlk cb 90 ⟨[.map (some lb), .map (some sm)]⟩, tMap lb E.length (mapL (cn E)), tMap sm S.length (mapS (sen S))]
theorem cn_put (E : List Nat) {q : Nat} (hq : 1 ≤ q) : putV (mapL (cn E)) (q : Int) (.int .i64 ((cn E q : Nat) + 1 : Int)) = mapL (cn (E ++ [q])) := by
  rw [show ((cn E q : Nat) + 1 : Int) = ((cn E q + 1 : Nat) : Int) by omega, Z5e _ hq (by omega)]
  congr 1
  funext i
  unfold cn
  rw [List.count_append, List.count_singleton]
  by_cases h : i = q
  · subst h; simp
  · rw [if_neg h, if_neg (by simpa using fun e => h e.symm)]; omega
theorem sen_put (S : List Nat) {q : Nat} (hq : 1 ≤ q) : putV (mapS (sen S)) (q : Int) (.bool true) = mapS (sen (S ++ [q])) := by
  rw [Z7u _ hq]
  congr 1
  funext i
  unfold insB sen
  simp [Bool.or_comm]
/-- A page is gone through, once. -/
def nodeE (N : Nfn) (q : Nat) (st : List Nat × List Nat) : List Nat × List Nat :=
  if q ∈ st.2 then st else match N q with
    | some (l, ps) => (if l = 0 then st.1 else st.1 ++ ps.map (·.2), st.2 ++ [q])
    | none => (st.1, st.2 ++ [q])
end Go.Proofs.Ytbfgacmfjfbooaa

/- trees: all, Reach, Check (printed by XTrAl.gen.py). -/
namespace Go.Proofs.Ytbfgacmfjfbooaa
attribute [local simp] BigFrame.eval_const BigFrame.eval_global BigFrame.eval_func
set_option linter.unusedVariables false
set_option linter.unusedSimpArgs false
open Go.RowKit Go.Maps

set_option maxRecDepth 100000 in
set_option maxHeartbeats 4000000 in
theorem tall {H : Nat} {A0 : World} {R : List Thing} {sb cap : Nat} {room : Int} {B : Option Addr} {vs : List Value} {N : List Nd} {root m : Nat} {L : List (List Pr)} {g : List Nat} (w : World) (O : OwnT H A0 (shT sb room B cap vs N R) w) (hRT : RT m N root L g) (h7 : m ≤ 7) (hN : N.length ≤ 511) (hgl : g.length ≤ 600) (hpl : L.flatten.length ≤ 100000) : Calls Try.prog 78 #[.iface 47 (.pointer (some ⟨sb, 0, none⟩)), .int .i64 root] w fun e w' => ∃ gw cp cq P Q, e = .returned (.pointer (some ⟨gw, 0, none⟩)) ∧ OwnT H A0 (shT sb room B cap vs N (tWk gw cp cq P Q g L.flatten R)) w' := by
 refine Z0a Try.func78 rfl 16 rfl (by rfl) ?_
 intro a1 k hargs; have e0 : a1.eval (.tmp 0) = .iface 47 (.pointer (some ⟨sb, 0, none⟩)) := hargs 0 _ rfl
 have e1 : a1.eval (.tmp 1) = .int .i64 ↑root := hargs 1 _ rfl
 clear hargs; refine wp_seq ?_; refine wp_region_lit ?_
 have hE := Env.refl a1 [4]; refine sd 4 hE k (Z01 rfl rfl) ?_; intro a2 hE e4 kp; refine wpList_nil ?_; replace e0 := hE.g e0; replace e1 := hE.g e1; replace k := k.env hE; clear hE e4; refine Z00 (wp_seq ?_); refine wp_region_lit ?_
 have hE := Env.refl a2 [6, 7, 5]; apply Z03 6 hE k rfl rfl rfl rfl; case h =>
  simp [go_sem, ↓IntWalk.iteOmega]
  with_reducible rfl
 intro a3 hE e6 kp; refine Z0k O (cs := #[.slice none 0 0, .slice none 0 0, .int .i64 0]) (t := 157) 7 hE k rfl (by rfl) (by rfl) rfl (by simp [go_sem, ↓IntWalk.iteOmega, ev e6]) ?_
 clear O; intro gw a4 w5 O hE e7 kp; refine sd 5 hE k (Z01 rfl e7) ?_; intro a6 hE e5 kp; refine wpList_nil ?_; replace e0 := hE.g e0; replace e1 := hE.g e1; replace k := k.env hE; clear hE; refine Z00 ?_; replace O := OwnT.nilRow (OwnT.nilRow O 103 2) 3 1
 replace O : OwnT _ _ ((tRow 3 1 (.slice none (([] : List Nat)).length 0) (([] : List Nat)).length ((([] : List Nat)).flatMap encN)) :: (tPs (.slice none (([] : List Pr)).length 0) (([] : List Pr))) :: (tBlk gw 157 #[.slice none ((([] : List Nat)).length) 0, .slice none ((([] : List Pr)).length) 0, .int .i64 0]) :: (tBlk sb 49 #[.slice B N.length cap, .int .i64 room]) :: (tRow 46 2 (.slice B N.length cap) N.length (leafV vs N)) :: (tPool vs N) :: R) w5 := O
 replace O : OwnT _ _ ((tBlk sb 49 #[.slice B N.length cap, .int .i64 room]) :: (tRow 46 2 (.slice B N.length cap) N.length (leafV vs N)) :: (tPool vs N) :: (tBlk gw 157 #[.slice none ((([] : List Nat)).length) 0, .slice none ((([] : List Pr)).length) 0, .int .i64 0]) :: (tRow 3 1 (.slice none (([] : List Nat)).length 0) (([] : List Nat)).length ((([] : List Nat)).flatMap encN)) :: (tPs (.slice none (([] : List Pr)).length 0) (([] : List Pr))) :: R) w5 := OwnT.pickR (L := [_, _, _, _, _, _]) (R := R) O [3, 4, 5, 2, 0, 1] (by decide)
 rcases hRT.rt with ⟨hr, hL, hg⟩ | ⟨l, hlm, hT, h2⟩
 · skip
   subst hL hg
   refine wp_seq ?_; refine wp_seq ?_; refine wp_region_lit ?_
   have hE := Env.refl a6 [8, 9]; refine zm 8 hE k e1 ?_; intro a7 hE e8 kp; refine sd 9 hE k (Z05 (Z0q rfl e8 rfl) (decide_eq_false (by omega))) ?_
   intro a8 hE e9 kp; refine wpList_nil ?_; replace e0 := hE.g e0; replace e1 := hE.g e1; replace e5 := hE.g e5; replace k := k.env hE; clear hE; refine Z00 ?_; refine Z06 e9 rfl ?_
   refine wp_skip ?_; refine Z00 (wp_seq ?_); refine wp_region_lit ?_
   have hE := Env.refl a8 [15, 4]; refine zm 15 hE k e5 ?_; intro a9 hE e15 kp; refine sd 4 hE k (Z01 rfl e15) ?_; intro a10 hE e4 kp; refine wpList_nil ?_; replace k := k.env hE; clear hE e0 e1 e5 e9; refine Z00 ?_; refine wp_ret ?_
   refine Z0v rfl k e4 ?_
   exact ⟨gw, 0, 0, none, none, rfl, O⟩
 · have hr : root ≠ 0 := by obtain ⟨r, e⟩ := Tr.one hT; have := (Tr.pages hT root (by rw [e]; simp)).1; omega
   refine wp_seq ?_; refine wp_seq ?_; refine wp_region_lit ?_
   have hE := Env.refl a6 [8, 9]; refine zm 8 hE k e1 ?_; intro a11 hE e8 kp; refine sd 9 hE k (Z05 (Z0q rfl e8 rfl) (decide_eq_true (by omega))) ?_
   intro a12 hE e9 kp; refine wpList_nil ?_; replace e0 := hE.g e0; replace e1 := hE.g e1; replace e5 := hE.g e5; replace k := k.env hE; clear hE; refine Z00 ?_; refine Z0h e9 rfl ?_
   refine wp_region_lit ?_
   have hE := Env.refl a12 [10, 11, 12, 13, 14]; refine zm 10 hE k e5 ?_; intro a13 hE e10 kp; refine zm 11 hE k e0 ?_; intro a14 hE e11 kp; replace e10 := kt kp e10; refine zm 12 hE k e1 ?_; intro a15 hE e12 kp; replace e10 := kt kp e10; replace e11 := kt kp e11; apply Z03 13 hE k rfl rfl rfl rfl; case h =>
    simp [go_sem, ↓IntWalk.iteOmega]
    with_reducible rfl
   intro a16 hE e13 kp; replace e10 := kt kp e10; replace e11 := kt kp e11; replace e12 := kt kp e12; apply Z09 14 hE k rfl (by rfl) (by rfl) rfl
   case h =>
    simp [go_sem, ↓IntWalk.iteOmega, ev e10, ev e11, ev e12, ev e13]
    with_reducible exact ⟨rfl, rfl⟩
   case hc => exact wnode l (fb := false) (f0 := 0) (hb := false) (h0 := 0) (pgs := []) (prs := []) _ O hT hRT.up (by omega) hN hRT.wf (.inl (by decide)) ⟨fun h => (by cases h), fun _ => rfl, fun h => (by cases h), fun _ => rfl⟩ (fun _ => h2) hRT.nod hgl (by simpa using hpl)
   clear O; rintro e w18 ⟨rfl, P2, Q2, c3, c4, O⟩
   refine ⟨_, rfl, ?_⟩
   intro a17 hE e14 kp; refine wpList_nil ?_; replace e5 := hE.g e5; replace k := k.env hE; clear hE e0 e1 e9 e14; refine Z00 (wp_seq ?_); refine wp_region_lit ?_
   have hE := Env.refl a17 [15, 4]; refine zm 15 hE k e5 ?_; intro a19 hE e15 kp; refine sd 4 hE k (Z01 rfl e15) ?_; intro a20 hE e4 kp; refine wpList_nil ?_; replace k := k.env hE; clear hE e5; refine Z00 ?_; refine wp_ret ?_
   refine Z0v rfl k e4 ?_
   exact ⟨gw, c3, c4, P2, Q2, rfl, O⟩
set_option maxRecDepth 100000 in
set_option maxHeartbeats 4000000 in
theorem tReach {H : Nat} {A0 : World} {R : List Thing} {sb cap : Nat} {room : Int} {B : Option Addr} {vs : List Value} {N : List Nd} {root m : Nat} {L : List (List Pr)} {g : List Nat} (w : World) (O : OwnT H A0 (shT sb room B cap vs N R) w) (hRT : RT m N root L g) (h7 : m ≤ 7) (hN : N.length ≤ 511) (hgl : g.length ≤ 600) (hpl : L.flatten.length ≤ 100000) : Calls Try.prog 61 #[.iface 47 (.pointer (some ⟨sb, 0, none⟩)), .int .i64 root] w fun e w' => ∃ P cp, e = .returned (.tuple #[.slice P g.length cp, .int .i64 0]) ∧ OwnT H A0 (shT sb room B cap vs N (tNs (.slice P g.length cp) g :: R)) w' := by
 refine Z0a Try.func61 rfl 23 rfl (by rfl) ?_
 intro a1 k hargs; have e0 : a1.eval (.tmp 0) = .iface 47 (.pointer (some ⟨sb, 0, none⟩)) := hargs 0 _ rfl
 have e1 : a1.eval (.tmp 1) = .int .i64 ↑root := hargs 1 _ rfl
 clear hargs; refine wp_seq ?_; refine wp_region_lit ?_
 have hE := Env.refl a1 [4, 5]; refine sd 4 hE k (Z01 rfl rfl) ?_; intro a2 hE e4 kp; refine sd 5 hE k (Z01 rfl rfl) ?_; intro a3 hE e5 kp; refine wpList_nil ?_; replace e0 := hE.g e0; replace e1 := hE.g e1; replace k := k.env hE; clear hE e5; refine Z00 (wp_seq ?_); refine wp_region_lit ?_
 have hE := Env.refl a3 [7, 8, 9, 6]; refine zm 7 hE k e0 ?_; intro a4 hE e7 kp; refine zm 8 hE k e1 ?_; intro a5 hE e8 kp; replace e7 := kt kp e7; apply Z09 9 hE k rfl (by rfl) (by rfl) rfl
 case h =>
  simp [go_sem, ↓IntWalk.iteOmega, ev e7, ev e8]
  with_reducible exact ⟨rfl, rfl⟩
 case hc => exact tall _ O hRT h7 hN hgl hpl
 clear O; rintro e w7 ⟨gw, cp, cq, P, Q, rfl, O⟩
 refine ⟨_, rfl, ?_⟩
 intro a6 hE e9 kp; refine sd 6 hE k (Z01 rfl e9) ?_; intro a8 hE e6 kp; refine wpList_nil ?_; replace k := k.env hE; clear hE e0 e1; refine Z00 (wp_seq ?_); refine wp_seq ?_; refine wp_region_lit ?_
 have hE := Env.refl a8 [10, 11, 12, 13, 14]; refine zm 10 hE k e6 ?_; intro a9 hE e10 kp; refine sd 11 hE k (Z17 rfl e10) ?_; intro a10 hE e11 kp; apply Z03 12 hE k rfl rfl rfl rfl; case h =>
  simp [go_sem, ↓IntWalk.iteOmega, ev e11]
  with_reducible rfl
 intro a11 hE e12 kp; refine sd 13 hE k (Z08 O 3 rfl rfl e12 rfl Try.underlying23 rfl) ?_; intro a12 hE e13 kp; refine sd 14 hE k (Z05 (Z0q rfl e13 rfl) (decide_eq_false (by omega))) ?_
 intro a13 hE e14 kp; refine wpList_nil ?_; replace e6 := hE.g e6; replace k := k.env hE; clear hE; refine Z00 ?_; refine Z06 e14 rfl ?_
 refine wp_skip ?_; refine Z00 (wp_seq ?_); refine wp_region_lit ?_
 have hE := Env.refl a13 [19, 20, 21, 22, 4, 5]; refine zm 19 hE k e6 ?_; intro a14 hE e19 kp; refine sd 20 hE k (Z17 rfl e19) ?_; intro a15 hE e20 kp; apply Z03 21 hE k rfl rfl rfl rfl; case h =>
  simp [go_sem, ↓IntWalk.iteOmega, ev e20]
  with_reducible rfl
 intro a16 hE e21 kp; refine sd 22 hE k (Z08 O 3 rfl rfl e21 rfl Try.underlying43 rfl) ?_; intro a17 hE e22 kp; refine sd 4 hE k (Z01 rfl e22) ?_; intro a18 hE e4 kp; refine sd 5 hE k (Z01 rfl rfl) ?_; intro a19 hE e5 kp; replace e4 := kt kp e4; refine wpList_nil ?_; replace k := k.env hE; clear hE e6 e14; refine Z00 ?_; refine wp_ret ?_
 refine Z1p rfl k e4 e5 ?_
 exact ⟨P, cp, rfl, OwnT.pickR (L := [_, _, _, _, _, _]) (R := R) O [0, 1, 2, 4] (by decide)⟩
end Go.Proofs.Ytbfgacmfjfbooaa
