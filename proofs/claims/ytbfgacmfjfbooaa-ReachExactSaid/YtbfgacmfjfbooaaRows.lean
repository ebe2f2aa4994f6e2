/-
  No cell of these rows narrows 'for every input' (looked for: loops, veiled, ifaces, maps, wideKeys, modest, calm, conditions, laid).
  DERIVED. THE GIVEN ROWS OF THIS SEAT. 2 by the template 'for every input the law returns true; each argument reads behind the call as it read before'; 0 by the template 'total and deterministic' (their statements: YtbfgacmfjfbooaaTotals.lean).
  GIVEN WITH THE SEED: the statements are not yours to turn. If you find one false, say at which input.
  Laid BY PROGRAM, IN A SANDBOX (cutbox-rows.mjs): the forced cells as the released guide's own fill.sh prints them over the translation 6ef9696d4ce022be… (all of the seat's roots in one cut). By AI agents, Wed Nov 11 2026. No macro, syntax, notation, axiom, sorry.
-/
import Derived.Test.YtbfgacmfjfbooaaChecked
import GoSem.Claim
import GoSem.ClaimJoined
import GoSem.ClaimMapViews
import Derived.JoinedTies
import Derived.KernelRfl
namespace Go.Proofs.Ytbfgacmfjfbooaa
/- THE CELL 'sum', in the pinned program and in every row, IS THE sha256 OF THE DUMP (.gsa) THAT YtbfgacmfjfbooaaProg.lean LOADS. Nothing in Lean hashes anything: it is a label: what it is worth is what the hold of that sum in a sandbox is worth. -/
noncomputable def Try.pinned : Pinned := { name := "ytbfgacmfjfbooaa", sum := "6ef9696d4ce022be7226257dfdd6dfe2c18a0eeff0ed81e5cecb7907d8edb7ec", checked := Try.checked }
namespace Rows
def none {H : Type} : Left H := { results := [], args := [] }

/-- 'tiercelaw31.ShipExact': WHATEVER THE INPUT: true; the input reads as it did. -/
def shipExactSpec : ChangeSpec := { name := "shipExact", fn := fun _ => fun
  | [d1, d2, d3, d4] => { results := [.lit (.bool true)], args := [d1, d2, d3, d4] }
  | _ => none }
def shipExactRow : OpenClaim := { program := "ytbfgacmfjfbooaa", sum := "6ef9696d4ce022be7226257dfdd6dfe2c18a0eeff0ed81e5cecb7907d8edb7ec", func := "tierce/tiercelaw31.ShipExact", spec := "shipExact", inPlace := ["internal/abi.NoEscape", "internal/bytealg.MakeNoZero"], unfollowed := true, recurses := true, apart := false }
def ShipExactSaid : Prop := shipExactRow.holds Try.pinned (OpenSpec.ofChange shipExactSpec)

/-- ITS FALSE NEIGHBOUR: 'it returns false'. Refute it at one input. -/
def shipExactWrong : ChangeSpec := { name := "shipExact", fn := fun _ => fun
  | [d1, d2, d3, d4] => { results := [.lit (.bool false)], args := [d1, d2, d3, d4] }
  | _ => none }
def ShipExactWrongFalsely : Prop := shipExactRow.holds Try.pinned (OpenSpec.ofChange shipExactWrong)

/-- 'tiercelaw09.ReachExact': WHATEVER THE INPUT: true; the input reads as it did. -/
def reachExactSpec : ChangeSpec := { name := "reachExact", fn := fun _ => fun
  | [d1, d2] => { results := [.lit (.bool true)], args := [d1, d2] }
  | _ => none }
def reachExactRow : OpenClaim := { program := "ytbfgacmfjfbooaa", sum := "6ef9696d4ce022be7226257dfdd6dfe2c18a0eeff0ed81e5cecb7907d8edb7ec", func := "tierce/tiercelaw09.ReachExact", spec := "reachExact", inPlace := ["slices.overlaps[tierce/api.Pair]"], unfollowed := true, recurses := true, apart := false }
def ReachExactSaid : Prop := reachExactRow.holds Try.pinned (OpenSpec.ofChange reachExactSpec)

/-- ITS FALSE NEIGHBOUR: 'it returns false'. Refute it at one input. -/
def reachExactWrong : ChangeSpec := { name := "reachExact", fn := fun _ => fun
  | [d1, d2] => { results := [.lit (.bool false)], args := [d1, d2] }
  | _ => none }
def ReachExactWrongFalsely : Prop := reachExactRow.holds Try.pinned (OpenSpec.ofChange reachExactWrong)

/- THE SECOND FORM. 'bulk': how many values and letters a reading holds, each counted each time it is reached (what is shared counts as often as it is met; a slice's spare places count too). A statement '..UptoSaid' is the law's where the arguments, and the package variables that the reading takes, are together of bulk at most 1048576: NARROWER than '..Said'. Prove '..Said' where nothing that the law and all that it calls make is longer than what came in: it says more and counts as full. Else prove '..UptoSaid'. A law counts once. -/
mutual
def uptoBulk {H : Type} : DataW H → Nat
  | .lit (.string bytes) => bytes.length + 1
  | .lit _ => 1
  | .nil => 1
  | .ptr d => uptoBulk d + 1
  | .slice elems spare => uptoBulkAll elems + uptoBulkAll spare + 1
  | .agg parts => uptoBulkAll parts + 1
  | .iface _ d => uptoBulk d + 1
  | .map entries => uptoBulkEntries entries + 1
  | .held _ => 1
def uptoBulkAll {H : Type} : List (DataW H) → Nat
  | [] => 0
  | d :: r => uptoBulk d + uptoBulkAll r
def uptoBulkEntries {H : Type} : List (Lit × DataW H) → Nat
  | [] => 0
  | x :: r => uptoBulkEntry x + uptoBulkEntries r
def uptoBulkEntry {H : Type} : Lit × DataW H → Nat
  | (.string bytes, d) => bytes.length + uptoBulk d + 1
  | (_, d) => uptoBulk d + 1
 end
def uptoSmall : (H : Type) → List (DataW H) → Bool := fun _ ds => decide (uptoBulkAll ds ≤ 1048576)
def OpenSpec.upto (s : _root_.Go.ChangeSpec) : _root_.Go.OpenSpec := { _root_.Go.OpenSpec.ofChange s with cond := some uptoSmall }

/-- 'tiercelaw31.ShipExact', WHERE WHAT IT READS IS OF BULK AT MOST 1048576: true; the input reads as it did. -/
def shipExactUptoRow : OpenClaim := { program := "ytbfgacmfjfbooaa", sum := "6ef9696d4ce022be7226257dfdd6dfe2c18a0eeff0ed81e5cecb7907d8edb7ec", func := "tierce/tiercelaw31.ShipExact", spec := "shipExact", inPlace := ["internal/abi.NoEscape", "internal/bytealg.MakeNoZero"], unfollowed := true, recurses := true, apart := false, narrowed := true }
def ShipExactUptoSaid : Prop := shipExactUptoRow.holds Try.pinned (OpenSpec.upto shipExactSpec)

/-- 'tiercelaw09.ReachExact', WHERE WHAT IT READS IS OF BULK AT MOST 1048576: true; the input reads as it did. -/
def reachExactUptoRow : OpenClaim := { program := "ytbfgacmfjfbooaa", sum := "6ef9696d4ce022be7226257dfdd6dfe2c18a0eeff0ed81e5cecb7907d8edb7ec", func := "tierce/tiercelaw09.ReachExact", spec := "reachExact", inPlace := ["slices.overlaps[tierce/api.Pair]"], unfollowed := true, recurses := true, apart := false, narrowed := true }
def ReachExactUptoSaid : Prop := reachExactUptoRow.holds Try.pinned (OpenSpec.upto reachExactSpec)

end Rows
end Go.Proofs.Ytbfgacmfjfbooaa
