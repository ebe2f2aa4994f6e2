/- Trees of laws, plain and at work: a tree of few pairs, its contracts. -/
import Derived.Test.YtngehbhhpkkijaaKTreeShares18
import Derived.Test.YtngehbhhpkkijaaKTreeShares19
import Derived.Test.YtngehbhhpkkijaaKTreeShares24
import Derived.Test.YtngehbhhpkkijaaKTreeShares27
namespace Go.Proofs.Ytngehbhhpkkijaa
set_option linter.unusedVariables false
set_option linter.unusedSimpArgs false
open Go.RowKit Go.Maps

/-- A tree of the pairs P, of at most one level above its leaves; c: how great it may be. -/
def Tre (N : List Nd) (root c : Nat) (P : List Pr) : Prop := ∃ m L g, RT m N root L g ∧ m ≤ 1 ∧ L.flatten = P ∧ phi L ≤ c
theorem phi_ge (L : List (List Pr)) : 8 * L.length ≤ phi L := by unfold phi; omega
theorem phi_flat : ∀ (L : List (List Pr)), L.flatten.length ≤ phi L
  | [] => by simp [phi]
  | c :: L => by
    have := phi_flat L
    rw [phi_cons, List.flatten_cons, List.length_append]
    omega
theorem nodup_len {N : Nat} : ∀ {g : List Nat}, g.Nodup → (∀ q ∈ g, 1 ≤ q ∧ q ≤ N) → g.length ≤ N := by
  induction N with
  | zero =>
    intro g _ h
    cases g with
    | nil => exact Nat.le_refl _
    | cons a r => have := h a (by simp); omega
  | succ N ih =>
    intro g hn h
    have h1 := ih (g := g.filter (fun q => decide (q ≠ N + 1))) (hn.filter _) (fun q hq => by
      obtain ⟨h1, h2⟩ := List.mem_filter.1 hq
      have := h q h1
      have := of_decide_eq_true h2
      omega)
    have h2 : g.length ≤ (g.filter (fun q => decide (q ≠ N + 1))).length + 1 := by
      clear ih h h1
      induction g with
      | nil => simp
      | cons a r ih =>
        obtain ⟨ha, hr⟩ := List.nodup_cons.1 hn
        by_cases e : a = N + 1
        · have : r.filter (fun q => decide (q ≠ N + 1)) = r := List.filter_eq_self.2 fun q hq => decide_eq_true (fun e' => ha (by rw [e, ← e']; exact hq))
          rw [List.filter_cons_of_neg (by simp [e]), this]
          simp
        · rw [List.filter_cons_of_pos (by simp [e])]
          simp only [List.length_cons]
          have := ih hr
          omega
    omega
section
variable {N : List Nd} {root c : Nat} {P : List Pr}
theorem RT.pages_le {m : Nat} {L : List (List Pr)} {g : List Nat} (h : RT m N root L g) : g.length ≤ N.length := by
  refine nodup_len h.nod fun q hq => ?_
  rcases h.rt with ⟨_, _, rfl⟩ | ⟨l, _, hT, _⟩
  · cases hq
  · exact Tr.pages hT q hq
theorem Tre.zero (N : List Nd) : Tre N 0 0 [] := ⟨0, [], [], rt_zero 0 N, by omega, rfl, by simp [phi]⟩
theorem Tre.mono (h : Tre N root c P) (M : List Nd) : Tre (N ++ M) root c P := by
  obtain ⟨m, L, g, h1, h2, h3, h4⟩ := h
  exact ⟨m, L, g, h1.mono M, h2, h3, h4⟩
theorem Tre.up (h : Tre N root c P) : Up P := by obtain ⟨m, L, g, h1, h2, rfl, h4⟩ := h; exact h1.up
theorem Tre.wf (h : Tre N root c P) : ∀ y ∈ P, y.1 < 18446744073709551616 ∧ y.2 < 18446744073709551616 := by obtain ⟨m, L, g, h1, h2, rfl, h4⟩ := h; exact h1.wf
theorem Tre.len (h : Tre N root c P) : P.length ≤ c := by obtain ⟨m, L, g, h1, h2, rfl, h4⟩ := h; have := phi_flat L; omega
theorem Tre.le (h : Tre N root c P) {d : Nat} (hd : c ≤ d) : Tre N root d P := by obtain ⟨m, L, g, h1, h2, h3, h4⟩ := h; exact ⟨m, L, g, h1, h2, h3, by omega⟩
theorem Tre.root_le (h : Tre N root c P) : root ≤ N.length := by
  obtain ⟨m, L, g, h1, h2, h3, h4⟩ := h
  rcases h1.rt with ⟨rfl, _⟩ | ⟨l, _, hT, _⟩
  · exact Nat.zero_le _
  · obtain ⟨r, e⟩ := Tr.one hT
    exact (Tr.pages hT root (by rw [e]; simp)).2
theorem Tre.root0 (h : Tre N 0 c P) : P = [] := by
  obtain ⟨m, L, g, h1, h2, rfl, h4⟩ := h
  rcases h1.rt with ⟨_, rfl, _⟩ | ⟨l, _, hT, _⟩
  · rfl
  · obtain ⟨r, e⟩ := Tr.one hT
    have := (Tr.pages hT 0 (by rw [e]; simp)).1
    omega
theorem Tre.root1 (h : Tre N root c P) (hr : root ≠ 0) : P ≠ [] := by
  obtain ⟨m, L, g, h1, h2, rfl, h4⟩ := h
  rcases h1.rt with ⟨e, _⟩ | ⟨l, _, hT, _⟩
  · exact absurd e hr
  · exact Tr.ne hT
end
/-- What a put brings. -/
def PutL (N N' : List Nd) (room : Int) (root k v c : Nat) (P : List Pr) (root' er : Int) : Prop :=
  (∃ M, N' = N ++ M ∧ M.length ≤ 5) ∧ ((er = 6 ∧ root' = 0 ∧ ¬ (N.length + 5 ≤ 511 ∧ ((N.length + 5 : Nat) : Int) ≤ room)) ∨ (er = 0 ∧ ∃ r : Nat, root' = r ∧ 1 ≤ r ∧ r ≤ N'.length ∧ Tre N' r (c + if root = 0 then 8 else 1) (insP (k, v) P)))
/-- What a drop brings. -/
def DropL (N N' : List Nd) (room : Int) (root k c : Nat) (P : List Pr) (root' : Int) (ok : Bool) (er : Int) : Prop :=
  (∃ M, N' = N ++ M ∧ M.length ≤ 2) ∧ ((er = 0 ∧ ok = false ∧ root' = root ∧ N' = N ∧ lookP k P = none) ∨ (er = 6 ∧ ok = false ∧ root' = 0 ∧ (lookP k P).isSome = true ∧ ¬ (N.length + 2 ≤ 511 ∧ ((N.length + 2 : Nat) : Int) ≤ room)) ∨
    (er = 0 ∧ ok = true ∧ (lookP k P).isSome = true ∧ ∃ r : Nat, root' = r ∧ Tre N' r c (delP k P)))
section
variable {H : Nat} {A0 : World} {R : List Thing} {sb cap : Nat} {room : Int} {B : Option Addr} {vs : List Value} {N : List Nd} {root ky vl c : Nat} {P : List Pr}
theorem lPut (w : World) (O : OwnT H A0 (shT sb room B cap vs N R) w) (hT : Tre N root c P) (hc : c ≤ 119) (hN : N.length ≤ 511) (hk : ky < 18446744073709551616) (hv : vl < 18446744073709551616) :
    Calls Try.prog 15 #[.iface 24 (.pointer (some ⟨sb, 0, none⟩)), .int .i64 root, .int .u64 ky, .int .u64 vl] w fun e w' => ∃ N' root' er B' cap' vs', e = .returned (.tuple #[.int .i64 root', .int .i64 er]) ∧ OwnT H A0 (shT sb room B' cap' vs' N' R) w' ∧ PutL N N' room root ky vl c P root' er := by
  obtain ⟨m, L, g, h1, h2, rfl, h4⟩ := hT
  refine (tPut w O h1 (by omega) hN hk hv).mono ?_
  rintro e w' ⟨N', root', er, B', cap', vs', rfl, O', ⟨M, hM1, hM2⟩, hP⟩
  refine ⟨N', root', er, B', cap', vs', rfl, O', ⟨M, hM1, by omega⟩, ?_⟩
  rcases hP with ⟨e1, e2, e3⟩ | ⟨e1, r, L', g', m', e2, e3, e4, e5, e6, e7', e8, e9⟩
  · exact .inl ⟨e1, e2, fun h => e3 (by omega)⟩
  · have e7 := e7'.phi
    refine .inr ⟨e1, r, e2, e3, e4, m', L', g', e5, ?_, e6, by omega⟩
    have := phi_ge L'
    have h8 : (if root = 0 then 8 else 1) ≤ 8 := by split <;> omega
    omega
theorem lGet (w : World) (O : OwnT H A0 (shT sb room B cap vs N R) w) (hT : Tre N root c P) (hN : N.length ≤ 511) :
    Calls Try.prog 19 #[.iface 24 (.pointer (some ⟨sb, 0, none⟩)), .int .i64 root, .int .u64 ky] w fun e w' => e = .returned (.tuple #[.int .u64 ((lookP ky P).getD 0 : Nat), .bool (lookP ky P).isSome, .int .i64 0]) ∧ OwnT H A0 (shT sb room B cap vs N R) w' := by
  obtain ⟨m, L, g, h1, h2, rfl, h4⟩ := hT
  exact tGet w O h1 (by omega) hN
theorem lRange (lo hi : Nat) (w : World) (O : OwnT H A0 (shT sb room B cap vs N R) w) (hT : Tre N root c P) (hc : c ≤ 1000) (hN : N.length ≤ 511) :
    Calls Try.prog 21 #[.iface 24 (.pointer (some ⟨sb, 0, none⟩)), .int .i64 root, .int .u64 (lo : Nat), .int .u64 (hi : Nat)] w fun e w' => ∃ B' c', e = .returned (.tuple #[.slice B' (cutP lo hi P).length c', .int .i64 0]) ∧ OwnT H A0 (shT sb room B cap vs N (tPs (.slice B' (cutP lo hi P).length c') (cutP lo hi P) :: R)) w' := by
  obtain ⟨m, L, g, h1, h2, rfl, h4⟩ := hT
  have hl := phi_flat L
  have hg := h1.pages_le
  refine (tRange w O h1 (by omega) hN (by omega) (by omega)).mono ?_
  rintro e w' ⟨v, rfl, O'⟩
  have e1 : L.flatten.filter (fun x => !outB lo hi x) = cutP lo hi L.flatten := List.filter_congr fun x _ => by
    simp only [outB]
    rw [← Bool.decide_and, ← decide_not, decide_eq_decide]
    omega
  rw [e1] at O'
  obtain ⟨B', c', e2, -⟩ := ps_row (O'.get 3 rfl)
  subst e2
  exact ⟨B', c', rfl, O'⟩
theorem lDrop (w : World) (O : OwnT H A0 (shT sb room B cap vs N R) w) (hT : Tre N root c P) (hN : N.length ≤ 500) :
    Calls Try.prog 17 #[.iface 24 (.pointer (some ⟨sb, 0, none⟩)), .int .i64 root, .int .u64 ky] w fun e w' => ∃ N' root' ok er B' cap' vs', e = .returned (.tuple #[.int .i64 root', .bool ok, .int .i64 er]) ∧ OwnT H A0 (shT sb room B' cap' vs' N' R) w' ∧ DropL N N' room root ky c P root' ok er := by
  obtain ⟨m, L, g, h1, h2, rfl, h4⟩ := hT
  refine (tDrop w O h1 (by omega) hN).mono ?_
  rintro e w' ⟨N', root', ok, er, B', cap', vs', rfl, O', hP⟩
  refine ⟨N', root', ok, er, B', cap', vs', rfl, O', ?_⟩
  rcases hP with ⟨e1, e2, e3, e4, e5⟩ | ⟨e1, e2, e3, e4, ⟨M, e5, e6⟩, e7⟩ | ⟨e1, e2, e3, ⟨M, e4, e5⟩, r, L', g', e6, e7, e8, e9⟩
  · exact ⟨⟨[], by simp [e4], by simp⟩, .inl ⟨e1, e2, e3, e4, e5⟩⟩
  · exact ⟨⟨M, e5, by omega⟩, .inr (.inl ⟨e1, e2, e3, e4, fun h => e7 (by omega)⟩)⟩
  · exact ⟨⟨M, e4, by omega⟩, .inr (.inr ⟨e1, e2, e3, r, e6, m, L', g', e7, h2, e8, by omega⟩)⟩
theorem cutP_all {P : List Pr} (h : ∀ y ∈ P, y.1 < 18446744073709551616) : cutP 0 18446744073709551615 P = P :=
  List.filter_eq_self.2 fun y hy => by
    have := h y hy
    rw [decide_eq_true (Nat.zero_le _), decide_eq_true (by omega)]
    rfl
theorem lAll (w : World) (O : OwnT H A0 (shT sb room B cap vs N R) w) (hT : Tre N root c P) (hc : c ≤ 1000) (hN : N.length ≤ 511) :
    Calls Try.prog 21 #[.iface 24 (.pointer (some ⟨sb, 0, none⟩)), .int .i64 root, .int .u64 0, .int .u64 18446744073709551615] w fun e w' => ∃ B' c', e = .returned (.tuple #[.slice B' P.length c', .int .i64 0]) ∧ OwnT H A0 (shT sb room B cap vs N (tPs (.slice B' P.length c') P :: R)) w' := by
  have h := lRange 0 18446744073709551615 w O hT hc hN
  rw [cutP_all fun y hy => (hT.wf y hy).1] at h
  exact h
theorem lCheck (w : World) (O : OwnT H A0 (shT sb room B cap vs N R) w) (hT : Tre N root c P) (hc : c ≤ 1000) (hN : N.length ≤ 511) :
    Calls Try.prog 24 #[.iface 24 (.pointer (some ⟨sb, 0, none⟩)), .int .i64 root] w fun e w' => e = .returned (.int .i64 0) ∧ OwnT H A0 (shT sb room B cap vs N R) w' := by
  obtain ⟨m, L, g, h1, h2, rfl, h4⟩ := hT
  have hl := phi_flat L
  have hg := h1.pages_le
  exact tCheck w O h1 (by omega) hN (by omega) (by omega)
end
/-- The pair at a place of a row, in memory. -/
theorem ps_cells {w : World} {B : Option Addr} {n c : Nat} {ps : List Pr} (h : (tPs (.slice B n c) ps).holds w) {i : Nat} {x : Pr} (hi : ps[i]? = some x) : n = ps.length ∧ ∃ g, B = some ⟨g, 0, none⟩ ∧ w.cell? ⟨g, i * 2, none⟩ = some (.int .u64 (x.1 : Nat)) ∧ w.cell? ⟨g, i * 2 + 1, none⟩ = some (.int .u64 (x.2 : Nat)) := by
  have hl := (List.getElem?_eq_some_iff.1 hi).1
  obtain ⟨g, cap', cur, e, -⟩ := row_some h (by omega)
  injection e with e1 e2 e3
  subst e1 e2 e3
  obtain ⟨B2, c2, e, _, _, hr, _⟩ := ps_row h
  injection e with e1 _ e3
  subst e1 e3
  obtain ⟨b, o, e, _, hc⟩ := hr i x hi
  injection e with e
  injection e with e e'
  subst e e'
  refine ⟨rfl, g, rfl, ?_, ?_⟩
  · have := hc 0 _ rfl; simpa using this
  · have := hc 1 _ rfl; simpa using this
end Go.Proofs.Ytngehbhhpkkijaa
