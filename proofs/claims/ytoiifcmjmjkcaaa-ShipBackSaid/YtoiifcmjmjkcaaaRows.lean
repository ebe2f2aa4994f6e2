/-
  No cell of these rows narrows 'for every input' (looked for: loops, veiled, ifaces, maps, wideKeys, modest, calm, conditions, laid).
  DERIVED. THE GIVEN ROWS OF THIS SEAT. 5 by the template 'for every input the law returns true; each argument reads behind the call as it read before'; 0 by the template 'total and deterministic' (their statements: YtoiifcmjmjkcaaaTotals.lean).
  GIVEN WITH THE SEED: the statements are not yours to turn. If you find one false, say at which input.
  Laid BY PROGRAM, IN A SANDBOX (cutbox-rows.mjs): the forced cells as the released guide's own fill.sh prints them over the translation ab911ac2c0df5fc8… (all of the seat's roots in one cut). By AI agents, Wed Nov 11 2026. No macro, syntax, notation, axiom, sorry.
-/
import Derived.Test.YtoiifcmjmjkcaaaChecked
import GoSem.Claim
import GoSem.ClaimJoined
import GoSem.ClaimMapViews
import Derived.JoinedTies
import Derived.KernelRfl
namespace Go.Proofs.Ytoiifcmjmjkcaaa
/- THE CELL 'sum', in the pinned program and in every row, IS THE sha256 OF THE DUMP (.gsa) THAT YtoiifcmjmjkcaaaProg.lean LOADS. Nothing in Lean hashes anything: it is a label: what it is worth is what the hold of that sum in a sandbox is worth. -/
noncomputable def Try.pinned : Pinned := { name := "ytoiifcmjmjkcaaa", sum := "ab911ac2c0df5fc86e85fcfd97b9563303190b5e4d7910cba03bd16669d25da3", checked := Try.checked }
namespace Rows
def none {H : Type} : Left H := { results := [], args := [] }

/-- 'tiercelaw30.DiffBack': WHATEVER THE INPUT: true; the input reads as it did. -/
def diffBackSpec : ChangeSpec := { name := "diffBack", fn := fun _ => fun
  | [d1, d2] => { results := [.lit (.bool true)], args := [d1, d2] }
  | _ => none }
def diffBackRow : OpenClaim := { program := "ytoiifcmjmjkcaaa", sum := "ab911ac2c0df5fc86e85fcfd97b9563303190b5e4d7910cba03bd16669d25da3", func := "tierce/tiercelaw30.DiffBack", spec := "diffBack", unfollowed := true, recurses := true, apart := false }
def DiffBackSaid : Prop := diffBackRow.holds Try.pinned (OpenSpec.ofChange diffBackSpec)

/-- ITS FALSE NEIGHBOUR: 'it returns false'. Refute it at one input. -/
def diffBackWrong : ChangeSpec := { name := "diffBack", fn := fun _ => fun
  | [d1, d2] => { results := [.lit (.bool false)], args := [d1, d2] }
  | _ => none }
def DiffBackWrongFalsely : Prop := diffBackRow.holds Try.pinned (OpenSpec.ofChange diffBackWrong)

/-- 'tiercelaw30.DiffThree': WHATEVER THE INPUT: true; the input reads as it did. -/
def diffThreeSpec : ChangeSpec := { name := "diffThree", fn := fun _ => fun
  | [d1, d2, d3, d4] => { results := [.lit (.bool true)], args := [d1, d2, d3, d4] }
  | _ => none }
def diffThreeRow : OpenClaim := { program := "ytoiifcmjmjkcaaa", sum := "ab911ac2c0df5fc86e85fcfd97b9563303190b5e4d7910cba03bd16669d25da3", func := "tierce/tiercelaw30.DiffThree", spec := "diffThree", unfollowed := true, recurses := true, apart := false }
def DiffThreeSaid : Prop := diffThreeRow.holds Try.pinned (OpenSpec.ofChange diffThreeSpec)

/-- ITS FALSE NEIGHBOUR: 'it returns false'. Refute it at one input. -/
def diffThreeWrong : ChangeSpec := { name := "diffThree", fn := fun _ => fun
  | [d1, d2, d3, d4] => { results := [.lit (.bool false)], args := [d1, d2, d3, d4] }
  | _ => none }
def DiffThreeWrongFalsely : Prop := diffThreeRow.holds Try.pinned (OpenSpec.ofChange diffThreeWrong)

/-- 'tiercelaw31.ShipExact': WHATEVER THE INPUT: true; the input reads as it did. -/
def shipExactSpec : ChangeSpec := { name := "shipExact", fn := fun _ => fun
  | [d1, d2, d3, d4] => { results := [.lit (.bool true)], args := [d1, d2, d3, d4] }
  | _ => none }
def shipExactRow : OpenClaim := { program := "ytoiifcmjmjkcaaa", sum := "ab911ac2c0df5fc86e85fcfd97b9563303190b5e4d7910cba03bd16669d25da3", func := "tierce/tiercelaw31.ShipExact", spec := "shipExact", inPlace := ["internal/abi.NoEscape", "internal/bytealg.MakeNoZero"], unfollowed := true, recurses := true, apart := false }
def ShipExactSaid : Prop := shipExactRow.holds Try.pinned (OpenSpec.ofChange shipExactSpec)

/-- ITS FALSE NEIGHBOUR: 'it returns false'. Refute it at one input. -/
def shipExactWrong : ChangeSpec := { name := "shipExact", fn := fun _ => fun
  | [d1, d2, d3, d4] => { results := [.lit (.bool false)], args := [d1, d2, d3, d4] }
  | _ => none }
def ShipExactWrongFalsely : Prop := shipExactRow.holds Try.pinned (OpenSpec.ofChange shipExactWrong)

/-- 'tiercelaw31.ShipBack': WHATEVER THE INPUT: true; the input reads as it did. -/
def shipBackSpec : ChangeSpec := { name := "shipBack", fn := fun _ => fun
  | [d1, d2, d3, d4] => { results := [.lit (.bool true)], args := [d1, d2, d3, d4] }
  | _ => none }
def shipBackRow : OpenClaim := { program := "ytoiifcmjmjkcaaa", sum := "ab911ac2c0df5fc86e85fcfd97b9563303190b5e4d7910cba03bd16669d25da3", func := "tierce/tiercelaw31.ShipBack", spec := "shipBack", inPlace := ["internal/abi.NoEscape", "internal/bytealg.MakeNoZero"], unfollowed := true, recurses := true, apart := false }
def ShipBackSaid : Prop := shipBackRow.holds Try.pinned (OpenSpec.ofChange shipBackSpec)

/-- ITS FALSE NEIGHBOUR: 'it returns false'. Refute it at one input. -/
def shipBackWrong : ChangeSpec := { name := "shipBack", fn := fun _ => fun
  | [d1, d2, d3, d4] => { results := [.lit (.bool false)], args := [d1, d2, d3, d4] }
  | _ => none }
def ShipBackWrongFalsely : Prop := shipBackRow.holds Try.pinned (OpenSpec.ofChange shipBackWrong)

/-- 'tiercelaw31.ShipSmall': WHATEVER THE INPUT: true; the input reads as it did. -/
def shipSmallSpec : ChangeSpec := { name := "shipSmall", fn := fun _ => fun
  | [d1, d2] => { results := [.lit (.bool true)], args := [d1, d2] }
  | _ => none }
def shipSmallRow : OpenClaim := { program := "ytoiifcmjmjkcaaa", sum := "ab911ac2c0df5fc86e85fcfd97b9563303190b5e4d7910cba03bd16669d25da3", func := "tierce/tiercelaw31.ShipSmall", spec := "shipSmall", inPlace := ["internal/abi.NoEscape", "internal/bytealg.MakeNoZero"], unfollowed := true, recurses := true, apart := false }
def ShipSmallSaid : Prop := shipSmallRow.holds Try.pinned (OpenSpec.ofChange shipSmallSpec)

/-- ITS FALSE NEIGHBOUR: 'it returns false'. Refute it at one input. -/
def shipSmallWrong : ChangeSpec := { name := "shipSmall", fn := fun _ => fun
  | [d1, d2] => { results := [.lit (.bool false)], args := [d1, d2] }
  | _ => none }
def ShipSmallWrongFalsely : Prop := shipSmallRow.holds Try.pinned (OpenSpec.ofChange shipSmallWrong)

/- THE SECOND FORM. 'bulk': how many values and letters a reading holds, each counted each time it is reached (what is shared counts as often as it is met; a slice's spare places count too). A statement '..UptoSaid' is the law's where the arguments, and the package variables that the reading takes, are together of bulk at most 1048576: NARROWER than '..Said'. Prove '..Said' where nothing that the law and all that it calls make is longer than what came in: it says more and counts as full. Else prove '..UptoSaid'. A law counts once. -/
mutual
def uptoBulk {H : Type} : DataW H → Nat
  | .lit (.string bytes) => bytes.length + 1
  | .lit _ => 1
  | .nil => 1
  | .ptr d => uptoBulk d + 1
  | .slice elems spare => uptoBulkAll elems + uptoBulkAll spare + 1
  | .agg parts => uptoBulkAll parts + 1
  | .iface _ d => uptoBulk d + 1
  | .map entries => uptoBulkEntries entries + 1
  | .held _ => 1
def uptoBulkAll {H : Type} : List (DataW H) → Nat
  | [] => 0
  | d :: r => uptoBulk d + uptoBulkAll r
def uptoBulkEntries {H : Type} : List (Lit × DataW H) → Nat
  | [] => 0
  | x :: r => uptoBulkEntry x + uptoBulkEntries r
def uptoBulkEntry {H : Type} : Lit × DataW H → Nat
  | (.string bytes, d) => bytes.length + uptoBulk d + 1
  | (_, d) => uptoBulk d + 1
 end
def uptoSmall : (H : Type) → List (DataW H) → Bool := fun _ ds => decide (uptoBulkAll ds ≤ 1048576)
def OpenSpec.upto (s : _root_.Go.ChangeSpec) : _root_.Go.OpenSpec := { _root_.Go.OpenSpec.ofChange s with cond := some uptoSmall }

/-- 'tiercelaw30.DiffBack', WHERE WHAT IT READS IS OF BULK AT MOST 1048576: true; the input reads as it did. -/
def diffBackUptoRow : OpenClaim := { program := "ytoiifcmjmjkcaaa", sum := "ab911ac2c0df5fc86e85fcfd97b9563303190b5e4d7910cba03bd16669d25da3", func := "tierce/tiercelaw30.DiffBack", spec := "diffBack", unfollowed := true, recurses := true, apart := false, narrowed := true }
def DiffBackUptoSaid : Prop := diffBackUptoRow.holds Try.pinned (OpenSpec.upto diffBackSpec)

/-- 'tiercelaw30.DiffThree', WHERE WHAT IT READS IS OF BULK AT MOST 1048576: true; the input reads as it did. -/
def diffThreeUptoRow : OpenClaim := { program := "ytoiifcmjmjkcaaa", sum := "ab911ac2c0df5fc86e85fcfd97b9563303190b5e4d7910cba03bd16669d25da3", func := "tierce/tiercelaw30.DiffThree", spec := "diffThree", unfollowed := true, recurses := true, apart := false, narrowed := true }
def DiffThreeUptoSaid : Prop := diffThreeUptoRow.holds Try.pinned (OpenSpec.upto diffThreeSpec)

/-- 'tiercelaw31.ShipExact', WHERE WHAT IT READS IS OF BULK AT MOST 1048576: true; the input reads as it did. -/
def shipExactUptoRow : OpenClaim := { program := "ytoiifcmjmjkcaaa", sum := "ab911ac2c0df5fc86e85fcfd97b9563303190b5e4d7910cba03bd16669d25da3", func := "tierce/tiercelaw31.ShipExact", spec := "shipExact", inPlace := ["internal/abi.NoEscape", "internal/bytealg.MakeNoZero"], unfollowed := true, recurses := true, apart := false, narrowed := true }
def ShipExactUptoSaid : Prop := shipExactUptoRow.holds Try.pinned (OpenSpec.upto shipExactSpec)

/-- 'tiercelaw31.ShipBack', WHERE WHAT IT READS IS OF BULK AT MOST 1048576: true; the input reads as it did. -/
def shipBackUptoRow : OpenClaim := { program := "ytoiifcmjmjkcaaa", sum := "ab911ac2c0df5fc86e85fcfd97b9563303190b5e4d7910cba03bd16669d25da3", func := "tierce/tiercelaw31.ShipBack", spec := "shipBack", inPlace := ["internal/abi.NoEscape", "internal/bytealg.MakeNoZero"], unfollowed := true, recurses := true, apart := false, narrowed := true }
def ShipBackUptoSaid : Prop := shipBackUptoRow.holds Try.pinned (OpenSpec.upto shipBackSpec)

/-- 'tiercelaw31.ShipSmall', WHERE WHAT IT READS IS OF BULK AT MOST 1048576: true; the input reads as it did. -/
def shipSmallUptoRow : OpenClaim := { program := "ytoiifcmjmjkcaaa", sum := "ab911ac2c0df5fc86e85fcfd97b9563303190b5e4d7910cba03bd16669d25da3", func := "tierce/tiercelaw31.ShipSmall", spec := "shipSmall", inPlace := ["internal/abi.NoEscape", "internal/bytealg.MakeNoZero"], unfollowed := true, recurses := true, apart := false, narrowed := true }
def ShipSmallUptoSaid : Prop := shipSmallUptoRow.holds Try.pinned (OpenSpec.upto shipSmallSpec)

end Rows
end Go.Proofs.Ytoiifcmjmjkcaaa
