/- Trees in laws: Get, Drop. -/
import Derived.Test.YtngehbhhpkkijaaKMapsGood23
import Derived.Test.YtngehbhhpkkijaaKMapsGood24
import Derived.Test.YtngehbhhpkkijaaKMapsGood28
namespace Go.Proofs.Ytngehbhhpkkijaa
set_option linter.unusedVariables false
set_option linter.unusedSimpArgs false
open Go.RowKit Go.Maps
section
variable {H : Nat} {A0 : World} {R : List Thing} {sb cap : Nat} {room : Int} {B : Option Addr} {vs : List Value} {N : List Nd} {root ky vl c : Nat} {P : List Pr}
theorem lGet (w : World) (O : OwnT H A0 (shT sb room B cap vs N R) w) (hT : Tre N root c P) (hN : N.length ≤ 511) :
    Calls Try.prog 19 #[.iface 24 (.pointer (some ⟨sb, 0, none⟩)), .int .i64 root, .int .u64 ky] w fun e w' => e = .returned (.tuple #[.int .u64 ((lookP ky P).getD 0 : Nat), .bool (lookP ky P).isSome, .int .i64 0]) ∧ OwnT H A0 (shT sb room B cap vs N R) w' := by
  obtain ⟨m, L, g, h1, h2, rfl, h4⟩ := hT
  exact tGet w O h1 (by omega) hN
end
end Go.Proofs.Ytngehbhhpkkijaa
