/- owners' law: OwnersExact: what its walk goes by. -/
import Derived.Test.YtdpohbaeopidmaaKOwnersExact20
namespace Go.Proofs.Ytdpohbaeopidmaa
set_option linter.unusedVariables false
set_option linter.unusedSimpArgs false
open Go.RowKit Go.Maps Go.ChangeShapes Go.WideShapes Go.ChangeAt Go.Shelf Go.Sort

abbrev nilV : Value := .slice none 0 0
/-- The book, and the reference's. -/
abbrev exT (pb : Nat) (F : List Nat) (ub : Nat) (v1 v2 : Value) (U V : List QD) : List Thing := [tOB pb F (ofQ U) (ofQ V), tBlk ub 29 #[v1, v2], tRow 35 4 v1 U.length (U.flatMap qC), tRow 35 4 v2 V.length (V.flatMap qC)]
structure ExG (U V : List QD) (k : Nat) : Prop where
  su : SortedQ U
  sv : SortedQ V
  ru : ∀ x ∈ U, 1 ≤ x.1 ∧ x.1 ≤ 1023
  lu : U.length ≤ k
  lv : V.length ≤ k
theorem ExG.n {U V : List QD} {k : Nat} (h : ExG U V k) (c : Int) : (ofQ U c).length ≤ k := Nat.le_trans (ofQ_len U c) h.lu
theorem ExG.m {U V : List QD} {k : Nat} (h : ExG U V k) (c : Int) : (ofQ V c).length ≤ k := Nat.le_trans (ofQ_len V c) h.lv
def ExI (w : World) (pb ub k : Nat) (R : List Thing) (wx : World) : Prop := ∃ F v1 v2 U V, OwnT w.heap.size w (exT pb F ub v1 v2 U V ++ R) wx ∧ ExG U V k
theorem exT_ref {H : Nat} {A wx : World} {pb : Nat} {F : List Nat} {ub : Nat} {v1 v2 : Value} {U V : List QD} {R : List Thing} (h : OwnT H A (exT pb F ub v1 v2 U V ++ R) wx) : URef wx ub v1 v2 U V :=
  ⟨h.all.2.1, h.all.2.2.1, h.all.2.2.2.1⟩
theorem exT_bs {H : Nat} {A wx : World} {pb : Nat} {F : List Nat} {ub : Nat} {v1 v2 : Value} {U V : List QD} {R : List Thing} (h : OwnT H A (exT pb F ub v1 v2 U V ++ R) wx) : BookS wx pb F (ofQ U) (ofQ V) := h.all.1
theorem ownsRow_extB {w w' : World} {base : Nat} {T : TypeId} {k n : Nat} {v : Value} {xs : List Value} (h : w.ownsRow base T k v n xs) (hE : Ext w w') : w'.ownsRow base T k v n xs := by
  refine ⟨h.1, ?_⟩
  rcases h.2 with hn | ⟨g, cap, cur, rfl, hb, hg, rest⟩
  · exact .inl hn
  · exact .inr ⟨g, cap, cur, rfl, hb, (hE.block g (Array.getElem?_eq_some_iff.1 hg).1).trans hg, rest⟩
theorem ownsRow_low {w : World} {base base' : Nat} {T : TypeId} {k n : Nat} {v : Value} {xs : List Value} (h : w.ownsRow base T k v n xs) (hb : base' ≤ base) : w.ownsRow base' T k v n xs := by
  refine ⟨h.1, ?_⟩
  rcases h.2 with hn | ⟨g, cap, cur, rfl, hb', rest⟩
  · exact .inl hn
  · exact .inr ⟨g, cap, cur, rfl, Nat.le_trans hb hb', rest⟩
theorem exT_start {w w1 : World} {pb : Nat} {F : List Nat} (h : OwnT w.heap.size w [tOB pb F (fun _ => []) (fun _ => [])] w1) : ExI w pb w1.heap.size 0 [] (w1.alloc (.cells #[nilV, nilV] 29)) := by
  have h1 := h.new 29 #[nilV, nilV]
  have h2 := (h1.nilRow 35 4).nilRow 35 4
  have h3 := h2.perm (List.reverse_perm _).symm
  exact ⟨F, nilV, nilV, [], [], h3, List.Pairwise.nil, List.Pairwise.nil, (fun x hx => by cases hx), Nat.le_refl _, Nat.le_refl _⟩
theorem free_ex (N W : Int → List OwD) : ∃ r, FreeIs N W r := by
  by_cases h : ∃ i : Nat, 1 ≤ i ∧ i ≤ 1023 ∧ N (i : Int) = [] ∧ W (i : Int) = []
  · obtain ⟨r, k1, k2, k3, k4⟩ := least_ex (fun i => N (i : Int) = [] ∧ W (i : Int) = []) 1023 h
    refine ⟨r, .inl ⟨by omega, by omega, k3.1, k3.2, fun j h4 h5 => ?_⟩⟩
    obtain ⟨m, rfl⟩ := Int.eq_ofNat_of_zero_le (show 0 ≤ j by omega)
    exact k4 m (by omega) (by omega)
  · refine ⟨0, .inr ⟨rfl, fun j h4 h5 hc => h ?_⟩⟩
    obtain ⟨m, rfl⟩ := Int.eq_ofNat_of_zero_le (show 0 ≤ j by omega)
    exact ⟨m, by omega, by omega, hc⟩
theorem row_own {w wx : World} {b o : Nat} {X : List OwD} (h : Row w (some ⟨b, o, none⟩) 3 ownC X) (hR : Ext w wx) {k : Nat} {x1 x2 x3 : Int} (hx : X[k]? = some (x1, x2, x3)) :
    wx.cell? ⟨b, o + k * 3, none⟩ = some (.int .i64 x1) ∧ wx.cell? ⟨b, o + k * 3 + 1, none⟩ = some (.int .i64 x2) ∧ wx.cell? ⟨b, o + k * 3 + 2, none⟩ = some (.int .i64 x3) := by
  obtain ⟨b', o', e, -, hc⟩ := (h.below hR) k _ hx
  injection e with e
  injection e with e1 e2
  subst e1 e2
  exact ⟨hc 0 _ rfl, hc 1 _ rfl, hc 2 _ rfl⟩
theorem row_q {w wx : World} {b o : Nat} {X : List QD} (h : Row w (some ⟨b, o, none⟩) 4 qC X) (hR : Ext w wx) {k : Nat} {x0 x1 x2 x3 : Int} (hx : X[k]? = some (x0, x1, x2, x3)) :
    wx.cell? ⟨b, o + k * 4, none⟩ = some (.int .i64 x0) := by
  obtain ⟨b', o', e, -, hc⟩ := (h.below hR) k _ hx
  injection e with e
  injection e with e1 e2
  subst e1 e2
  exact hc 0 _ rfl
end Go.Proofs.Ytdpohbaeopidmaa
