/- Trees of laws: a tree of few pairs; Put. -/
import Derived.Test.YtdeocidlkpbhcaaKReachShares21
namespace Go.Proofs.Ytdeocidlkpbhcaa
set_option linter.unusedVariables false
set_option linter.unusedSimpArgs false
open Go.RowKit Go.Maps

/-- A tree of the pairs P, of at most one level above its leaves; c: how great it may be. -/
def Tre (N : List Nd) (root c : Nat) (P : List Pr) : Prop := ∃ m L g, RT m N root L g ∧ m ≤ 1 ∧ L.flatten = P ∧ phi L ≤ c
theorem phi_ge (L : List (List Pr)) : 8 * L.length ≤ phi L := by unfold phi; omega
theorem Z6i : ∀ (L : List (List Pr)), L.flatten.length ≤ phi L
  | [] => by simp [phi]
  | c :: L => by
    have := Z6i L
    rw [Z3t, List.flatten_cons, List.length_append]
    omega
theorem Z83 {N : Nat} : ∀ {g : List Nat}, g.Nodup → (∀ q ∈ g, 1 ≤ q ∧ q ≤ N) → g.length ≤ N := by
  induction N with
  | zero =>
    intro g _ h
    cases g with
    | nil => exact Nat.le_refl _
    | cons a r => have := h a (by simp); omega
  | succ N ih =>
    intro g hn h
    have h1 := ih (g := g.filter (fun q => decide (q ≠ N + 1))) (hn.filter _) (fun q hq => by
      obtain ⟨h1, h2⟩ := List.mem_filter.1 hq
      have := h q h1
      have := of_decide_eq_true h2
      omega)
    have h2 : g.length ≤ (g.filter (fun q => decide (q ≠ N + 1))).length + 1 := by
      clear ih h h1
      induction g with
      | nil => simp
      | cons a r ih =>
        obtain ⟨ha, hr⟩ := List.nodup_cons.1 hn
        by_cases e : a = N + 1
        · have : r.filter (fun q => decide (q ≠ N + 1)) = r := List.filter_eq_self.2 fun q hq => decide_eq_true (fun e' => ha (by rw [e, ← e']; exact hq))
          rw [List.filter_cons_of_neg (by simp [e]), this]
          simp
        · rw [List.filter_cons_of_pos (by simp [e])]
          simp only [List.length_cons]
          have := ih hr
          omega
    omega
section
variable {N : List Nd} {root c : Nat} {P : List Pr}
theorem RT.pages_le {m : Nat} {L : List (List Pr)} {g : List Nat} (h : RT m N root L g) : g.length ≤ N.length := by
  refine Z83 h.nod fun q hq => ?_
  rcases h.rt with ⟨_, _, rfl⟩ | ⟨l, _, hT, _⟩
  · cases hq
  · exact Tr.pages hT q hq
theorem Tre.zero (N : List Nd) : Tre N 0 0 [] := ⟨0, [], [], Z5y 0 N, by omega, rfl, by simp [phi]⟩
theorem Tre.mono (h : Tre N root c P) (M : List Nd) : Tre (N ++ M) root c P := by
  obtain ⟨m, L, g, h1, h2, h3, h4⟩ := h
  exact ⟨m, L, g, h1.mono M, h2, h3, h4⟩
theorem Tre.up (h : Tre N root c P) : Up P := by obtain ⟨m, L, g, h1, h2, rfl, h4⟩ := h; exact h1.up
theorem Tre.wf (h : Tre N root c P) : ∀ y ∈ P, y.1 < 18446744073709551616 ∧ y.2 < 18446744073709551616 := by obtain ⟨m, L, g, h1, h2, rfl, h4⟩ := h; exact h1.wf
theorem Tre.len (h : Tre N root c P) : P.length ≤ c := by obtain ⟨m, L, g, h1, h2, rfl, h4⟩ := h; have := Z6i L; omega
theorem Tre.le (h : Tre N root c P) {d : Nat} (hd : c ≤ d) : Tre N root d P := by obtain ⟨m, L, g, h1, h2, h3, h4⟩ := h; exact ⟨m, L, g, h1, h2, h3, by omega⟩
theorem Tre.root_le (h : Tre N root c P) : root ≤ N.length := by
  obtain ⟨m, L, g, h1, h2, h3, h4⟩ := h
  rcases h1.rt with ⟨rfl, _⟩ | ⟨l, _, hT, _⟩
  · exact Nat.zero_le _
  · obtain ⟨r, e⟩ := Tr.one hT
    exact (Tr.pages hT root (by rw [e]; simp)).2
theorem Tre.root0 (h : Tre N 0 c P) : P = [] := by
  obtain ⟨m, L, g, h1, h2, rfl, h4⟩ := h
  rcases h1.rt with ⟨_, rfl, _⟩ | ⟨l, _, hT, _⟩
  · rfl
  · obtain ⟨r, e⟩ := Tr.one hT
    have := (Tr.pages hT 0 (by rw [e]; simp)).1
    omega
theorem Tre.root1 (h : Tre N root c P) (hr : root ≠ 0) : P ≠ [] := by
  obtain ⟨m, L, g, h1, h2, rfl, h4⟩ := h
  rcases h1.rt with ⟨e, _⟩ | ⟨l, _, hT, _⟩
  · exact absurd e hr
  · exact Tr.ne hT
end
/-- What a put brings. -/
def PutL (N N' : List Nd) (room : Int) (root k v c : Nat) (P : List Pr) (root' er : Int) : Prop :=
  (∃ M, N' = N ++ M ∧ M.length ≤ 5) ∧ ((er = 6 ∧ root' = 0 ∧ ¬ (N.length + 5 ≤ 511 ∧ ((N.length + 5 : Nat) : Int) ≤ room)) ∨ (er = 0 ∧ ∃ r : Nat, root' = r ∧ 1 ≤ r ∧ r ≤ N'.length ∧ Tre N' r (c + if root = 0 then 8 else 1) (insP (k, v) P)))
section
variable {H : Nat} {A0 : World} {R : List Thing} {sb cap : Nat} {room : Int} {B : Option Addr} {vs : List Value} {N : List Nd} {root ky vl c : Nat} {P : List Pr}
theorem lPut (w : World) (O : OwnT H A0 (shT sb room B cap vs N R) w) (hT : Tre N root c P) (hc : c ≤ 119) (hN : N.length ≤ 511) (hk : ky < 18446744073709551616) (hv : vl < 18446744073709551616) :
    Calls Try.prog 7 #[.iface 24 (.pointer (some ⟨sb, 0, none⟩)), .int .i64 root, .int .u64 ky, .int .u64 vl] w fun e w' => ∃ N' root' er B' cap' vs', e = .returned (.tuple #[.int .i64 root', .int .i64 er]) ∧ OwnT H A0 (shT sb room B' cap' vs' N' R) w' ∧ PutL N N' room root ky vl c P root' er := by
  obtain ⟨m, L, g, h1, h2, rfl, h4⟩ := hT
  refine (tPut w O h1 (by omega) hN hk hv).mono ?_
  rintro e w' ⟨N', root', er, B', cap', vs', rfl, O', ⟨M, hM1, hM2⟩, hP⟩
  refine ⟨N', root', er, B', cap', vs', rfl, O', ⟨M, hM1, by omega⟩, ?_⟩
  rcases hP with ⟨e1, e2, e3⟩ | ⟨e1, r, L', g', m', e2, e3, e4, e5, e6, e7', e8, e9, _, _⟩
  · exact .inl ⟨e1, e2, fun h => e3 (by omega)⟩
  · have e7 := e7'.phi
    refine .inr ⟨e1, r, e2, e3, e4, m', L', g', e5, ?_, e6, by omega⟩
    have := phi_ge L'
    have h8 : (if root = 0 then 8 else 1) ≤ 8 := by split <;> omega
    omega
end
/-- The pair at a place of a row, in memory. -/
theorem ps_cells {w : World} {B : Option Addr} {n c : Nat} {ps : List Pr} (h : (tPs (.slice B n c) ps).holds w) {i : Nat} {x : Pr} (hi : ps[i]? = some x) : n = ps.length ∧ ∃ g, B = some ⟨g, 0, none⟩ ∧ w.cell? ⟨g, i * 2, none⟩ = some (.int .u64 (x.1 : Nat)) ∧ w.cell? ⟨g, i * 2 + 1, none⟩ = some (.int .u64 (x.2 : Nat)) := by
  have hl := (List.getElem?_eq_some_iff.1 hi).1
  obtain ⟨g, cap', cur, e, -⟩ := Z11 h (by omega)
  injection e with e1 e2 e3
  subst e1 e2 e3
  obtain ⟨B2, c2, e, _, _, hr, _⟩ := Z0o h
  injection e with e1 _ e3
  subst e1 e3
  obtain ⟨b, o, e, _, hc⟩ := hr i x hi
  injection e with e
  injection e with e e'
  subst e e'
  refine ⟨rfl, g, rfl, ?_, ?_⟩
  · have := hc 0 _ rfl; simpa using this
  · have := hc 1 _ rfl; simpa using this
end Go.Proofs.Ytdeocidlkpbhcaa
