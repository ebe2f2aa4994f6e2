/- Trees in laws: Get, Drop. -/
import Derived.Test.YtngehbhhpkkijaaKMapsExact23
import Derived.Test.YtngehbhhpkkijaaKMapsExact24
import Derived.Test.YtngehbhhpkkijaaKMapsExact28
namespace Go.Proofs.Ytngehbhhpkkijaa
set_option linter.unusedVariables false
set_option linter.unusedSimpArgs false
open Go.RowKit Go.Maps
/-- What a drop brings. -/
def DropL (N N' : List Nd) (room : Int) (root k c : Nat) (P : List Pr) (root' : Int) (ok : Bool) (er : Int) : Prop :=
  (∃ M, N' = N ++ M ∧ M.length ≤ 2) ∧ ((er = 0 ∧ ok = false ∧ root' = root ∧ N' = N ∧ lookP k P = none) ∨ (er = 6 ∧ ok = false ∧ root' = 0 ∧ (lookP k P).isSome = true ∧ ¬ (N.length + 2 ≤ 511 ∧ ((N.length + 2 : Nat) : Int) ≤ room)) ∨
    (er = 0 ∧ ok = true ∧ (lookP k P).isSome = true ∧ ∃ r : Nat, root' = r ∧ Tre N' r c (delP k P)))
section
variable {H : Nat} {A0 : World} {R : List Thing} {sb cap : Nat} {room : Int} {B : Option Addr} {vs : List Value} {N : List Nd} {root ky vl c : Nat} {P : List Pr}
theorem lGet (w : World) (O : OwnT H A0 (shT sb room B cap vs N R) w) (hT : Tre N root c P) (hN : N.length ≤ 511) :
    Calls Try.prog 19 #[.iface 24 (.pointer (some ⟨sb, 0, none⟩)), .int .i64 root, .int .u64 ky] w fun e w' => e = .returned (.tuple #[.int .u64 ((lookP ky P).getD 0 : Nat), .bool (lookP ky P).isSome, .int .i64 0]) ∧ OwnT H A0 (shT sb room B cap vs N R) w' := by
  obtain ⟨m, L, g, h1, h2, rfl, h4⟩ := hT
  exact tGet w O h1 (by omega) hN
theorem lDrop (w : World) (O : OwnT H A0 (shT sb room B cap vs N R) w) (hT : Tre N root c P) (hN : N.length ≤ 500) :
    Calls Try.prog 17 #[.iface 24 (.pointer (some ⟨sb, 0, none⟩)), .int .i64 root, .int .u64 ky] w fun e w' => ∃ N' root' ok er B' cap' vs', e = .returned (.tuple #[.int .i64 root', .bool ok, .int .i64 er]) ∧ OwnT H A0 (shT sb room B' cap' vs' N' R) w' ∧ DropL N N' room root ky c P root' ok er := by
  obtain ⟨m, L, g, h1, h2, rfl, h4⟩ := hT
  refine (tDrop w O h1 (by omega) hN).mono ?_
  rintro e w' ⟨N', root', ok, er, B', cap', vs', rfl, O', hP⟩
  refine ⟨N', root', ok, er, B', cap', vs', rfl, O', ?_⟩
  rcases hP with ⟨e1, e2, e3, e4, e5⟩ | ⟨e1, e2, e3, e4, ⟨M, e5, e6⟩, e7⟩ | ⟨e1, e2, e3, ⟨M, e4, e5⟩, r, L', g', e6, e7, e8, e9⟩
  · exact ⟨⟨[], by simp [e4], by simp⟩, .inl ⟨e1, e2, e3, e4, e5⟩⟩
  · exact ⟨⟨M, e5, by omega⟩, .inr (.inl ⟨e1, e2, e3, e4, fun h => e7 (by omega)⟩)⟩
  · exact ⟨⟨M, e4, by omega⟩, .inr (.inr ⟨e1, e2, e3, r, e6, m, L', g', e7, h2, e8, by omega⟩)⟩
end
end Go.Proofs.Ytngehbhhpkkijaa
