/-
  No cell of these rows narrows 'for every input' (looked for: loops, veiled, ifaces, maps, wideKeys, modest, calm, conditions, laid).
  DERIVED. THE GIVEN ROWS OF THIS SEAT. 3 by the template 'for every input the law returns true; each argument reads behind the call as it read before'; 0 by the template 'total and deterministic' (their statements: YtdeocidlkpbhcaaTotals.lean).
  GIVEN WITH THE SEED: the statements are not yours to turn. If you find one false, say at which input.
  Laid BY PROGRAM, IN A SANDBOX (cutbox-rows.mjs): the forced cells as the released guide's own fill.sh prints them over the translation 5d99c521006239b6… (all of the seat's roots in one cut). By AI agents, Wed Nov 11 2026. No macro, syntax, notation, axiom, sorry.
-/
import Derived.Test.YtdeocidlkpbhcaaChecked
import GoSem.Claim
import GoSem.ClaimJoined
import GoSem.ClaimMapViews
import Derived.JoinedTies
import Derived.KernelRfl
namespace Go.Proofs.Ytdeocidlkpbhcaa
/- THE CELL 'sum', in the pinned program and in every row, IS THE sha256 OF THE DUMP (.gsa) THAT YtdeocidlkpbhcaaProg.lean LOADS. Nothing in Lean hashes anything: it is a label: what it is worth is what the hold of that sum in a sandbox is worth. -/
noncomputable def Try.pinned : Pinned := { name := "ytdeocidlkpbhcaa", sum := "5d99c521006239b68170a21cd848fef9c09100a4e77099449f12c08463808882", checked := Try.checked }
namespace Rows
def none {H : Type} : Left H := { results := [], args := [] }

/-- 'tiercelaw09.ReachUnion': WHATEVER THE INPUT: true; the input reads as it did. -/
def reachUnionSpec : ChangeSpec := { name := "reachUnion", fn := fun _ => fun
  | [d1, d2] => { results := [.lit (.bool true)], args := [d1, d2] }
  | _ => none }
def reachUnionRow : OpenClaim := { program := "ytdeocidlkpbhcaa", sum := "5d99c521006239b68170a21cd848fef9c09100a4e77099449f12c08463808882", func := "tierce/tiercelaw09.ReachUnion", spec := "reachUnion", inPlace := ["slices.overlaps[tierce/api.Pair]"], unfollowed := true, recurses := true, apart := false }
def ReachUnionSaid : Prop := reachUnionRow.holds Try.pinned (OpenSpec.ofChange reachUnionSpec)

/-- ITS FALSE NEIGHBOUR: 'it returns false'. Refute it at one input. -/
def reachUnionWrong : ChangeSpec := { name := "reachUnion", fn := fun _ => fun
  | [d1, d2] => { results := [.lit (.bool false)], args := [d1, d2] }
  | _ => none }
def ReachUnionWrongFalsely : Prop := reachUnionRow.holds Try.pinned (OpenSpec.ofChange reachUnionWrong)

/-- 'tiercelaw09.ReachShares': WHATEVER THE INPUT: true; the input reads as it did. -/
def reachSharesSpec : ChangeSpec := { name := "reachShares", fn := fun _ => fun
  | [d1, d2, d3] => { results := [.lit (.bool true)], args := [d1, d2, d3] }
  | _ => none }
def reachSharesRow : OpenClaim := { program := "ytdeocidlkpbhcaa", sum := "5d99c521006239b68170a21cd848fef9c09100a4e77099449f12c08463808882", func := "tierce/tiercelaw09.ReachShares", spec := "reachShares", inPlace := ["slices.overlaps[tierce/api.Pair]"], unfollowed := true, recurses := true, apart := false }
def ReachSharesSaid : Prop := reachSharesRow.holds Try.pinned (OpenSpec.ofChange reachSharesSpec)

/-- ITS FALSE NEIGHBOUR: 'it returns false'. Refute it at one input. -/
def reachSharesWrong : ChangeSpec := { name := "reachShares", fn := fun _ => fun
  | [d1, d2, d3] => { results := [.lit (.bool false)], args := [d1, d2, d3] }
  | _ => none }
def ReachSharesWrongFalsely : Prop := reachSharesRow.holds Try.pinned (OpenSpec.ofChange reachSharesWrong)

/-- 'tiercelaw09.ReachExact': WHATEVER THE INPUT: true; the input reads as it did. -/
def reachExactSpec : ChangeSpec := { name := "reachExact", fn := fun _ => fun
  | [d1, d2] => { results := [.lit (.bool true)], args := [d1, d2] }
  | _ => none }
def reachExactRow : OpenClaim := { program := "ytdeocidlkpbhcaa", sum := "5d99c521006239b68170a21cd848fef9c09100a4e77099449f12c08463808882", func := "tierce/tiercelaw09.ReachExact", spec := "reachExact", inPlace := ["slices.overlaps[tierce/api.Pair]"], unfollowed := true, recurses := true, apart := false }
def ReachExactSaid : Prop := reachExactRow.holds Try.pinned (OpenSpec.ofChange reachExactSpec)

/-- ITS FALSE NEIGHBOUR: 'it returns false'. Refute it at one input. -/
def reachExactWrong : ChangeSpec := { name := "reachExact", fn := fun _ => fun
  | [d1, d2] => { results := [.lit (.bool false)], args := [d1, d2] }
  | _ => none }
def ReachExactWrongFalsely : Prop := reachExactRow.holds Try.pinned (OpenSpec.ofChange reachExactWrong)

/- THE SECOND FORM. 'bulk': how many values and letters a reading holds, each counted each time it is reached (what is shared counts as often as it is met; a slice's spare places count too). A statement '..UptoSaid' is the law's where the arguments, and the package variables that the reading takes, are together of bulk at most 1048576: NARROWER than '..Said'. Prove '..Said' where nothing that the law and all that it calls make is longer than what came in: it says more and counts as full. Else prove '..UptoSaid'. A law counts once. -/
mutual
def uptoBulk {H : Type} : DataW H → Nat
  | .lit (.string bytes) => bytes.length + 1
  | .lit _ => 1
  | .nil => 1
  | .ptr d => uptoBulk d + 1
  | .slice elems spare => uptoBulkAll elems + uptoBulkAll spare + 1
  | .agg parts => uptoBulkAll parts + 1
  | .iface _ d => uptoBulk d + 1
  | .map entries => uptoBulkEntries entries + 1
  | .held _ => 1
def uptoBulkAll {H : Type} : List (DataW H) → Nat
  | [] => 0
  | d :: r => uptoBulk d + uptoBulkAll r
def uptoBulkEntries {H : Type} : List (Lit × DataW H) → Nat
  | [] => 0
  | x :: r => uptoBulkEntry x + uptoBulkEntries r
def uptoBulkEntry {H : Type} : Lit × DataW H → Nat
  | (.string bytes, d) => bytes.length + uptoBulk d + 1
  | (_, d) => uptoBulk d + 1
 end
def uptoSmall : (H : Type) → List (DataW H) → Bool := fun _ ds => decide (uptoBulkAll ds ≤ 1048576)
def OpenSpec.upto (s : _root_.Go.ChangeSpec) : _root_.Go.OpenSpec := { _root_.Go.OpenSpec.ofChange s with cond := some uptoSmall }

/-- 'tiercelaw09.ReachUnion', WHERE WHAT IT READS IS OF BULK AT MOST 1048576: true; the input reads as it did. -/
def reachUnionUptoRow : OpenClaim := { program := "ytdeocidlkpbhcaa", sum := "5d99c521006239b68170a21cd848fef9c09100a4e77099449f12c08463808882", func := "tierce/tiercelaw09.ReachUnion", spec := "reachUnion", inPlace := ["slices.overlaps[tierce/api.Pair]"], unfollowed := true, recurses := true, apart := false, narrowed := true }
def ReachUnionUptoSaid : Prop := reachUnionUptoRow.holds Try.pinned (OpenSpec.upto reachUnionSpec)

/-- 'tiercelaw09.ReachShares', WHERE WHAT IT READS IS OF BULK AT MOST 1048576: true; the input reads as it did. -/
def reachSharesUptoRow : OpenClaim := { program := "ytdeocidlkpbhcaa", sum := "5d99c521006239b68170a21cd848fef9c09100a4e77099449f12c08463808882", func := "tierce/tiercelaw09.ReachShares", spec := "reachShares", inPlace := ["slices.overlaps[tierce/api.Pair]"], unfollowed := true, recurses := true, apart := false, narrowed := true }
def ReachSharesUptoSaid : Prop := reachSharesUptoRow.holds Try.pinned (OpenSpec.upto reachSharesSpec)

/-- 'tiercelaw09.ReachExact', WHERE WHAT IT READS IS OF BULK AT MOST 1048576: true; the input reads as it did. -/
def reachExactUptoRow : OpenClaim := { program := "ytdeocidlkpbhcaa", sum := "5d99c521006239b68170a21cd848fef9c09100a4e77099449f12c08463808882", func := "tierce/tiercelaw09.ReachExact", spec := "reachExact", inPlace := ["slices.overlaps[tierce/api.Pair]"], unfollowed := true, recurses := true, apart := false, narrowed := true }
def ReachExactUptoSaid : Prop := reachExactUptoRow.holds Try.pinned (OpenSpec.upto reachExactSpec)

end Rows
end Go.Proofs.Ytdeocidlkpbhcaa
