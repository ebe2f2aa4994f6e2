/-
  No cell of these rows narrows 'for every input' (looked for: loops, veiled, ifaces, maps, wideKeys, modest, calm, conditions, laid).
  DERIVED. THE GIVEN ROWS OF THIS SEAT. 11 by the template 'for every input the law returns true; each argument reads behind the call as it read before'; 0 by the template 'total and deterministic' (their statements: YtngehbhhpkkijaaTotals.lean).
  GIVEN WITH THE SEED: the statements are not yours to turn. If you find one false, say at which input.
  Laid BY PROGRAM, IN A SANDBOX (cutbox-rows.mjs): the forced cells as the released guide's own fill.sh prints them over the translation 4db6b92701630fb7… (all of the seat's roots in one cut). By AI agents, Wed Nov 11 2026. No macro, syntax, notation, axiom, sorry.
-/
import Derived.Test.YtngehbhhpkkijaaChecked
import GoSem.Claim
import GoSem.ClaimJoined
import GoSem.ClaimMapViews
import Derived.JoinedTies
import Derived.KernelRfl
namespace Go.Proofs.Ytngehbhhpkkijaa
/- THE CELL 'sum', in the pinned program and in every row, IS THE sha256 OF THE DUMP (.gsa) THAT YtngehbhhpkkijaaProg.lean LOADS. Nothing in Lean hashes anything: it is a label: what it is worth is what the hold of that sum in a sandbox is worth. -/
noncomputable def Try.pinned : Pinned := { name := "ytngehbhhpkkijaa", sum := "4db6b92701630fb7bef6002118b4153d534bbfab800de6af906b8917048c7bcb", checked := Try.checked }
namespace Rows
def none {H : Type} : Left H := { results := [], args := [] }

/-- 'tiercelaw08.TreeMap': WHATEVER THE INPUT: true; the input reads as it did. -/
def treeMapSpec : ChangeSpec := { name := "treeMap", fn := fun _ => fun
  | [d1, d2] => { results := [.lit (.bool true)], args := [d1, d2] }
  | _ => none }
def treeMapRow : OpenClaim := { program := "ytngehbhhpkkijaa", sum := "4db6b92701630fb7bef6002118b4153d534bbfab800de6af906b8917048c7bcb", func := "tierce/tiercelaw08.TreeMap", spec := "treeMap", inPlace := ["slices.overlaps[tierce/api.Pair]"], unfollowed := true, recurses := true, plainKeys := false, apart := false }
def TreeMapSaid : Prop := treeMapRow.holds Try.pinned (OpenSpec.ofChange treeMapSpec)

/-- ITS FALSE NEIGHBOUR: 'it returns false'. Refute it at one input. -/
def treeMapWrong : ChangeSpec := { name := "treeMap", fn := fun _ => fun
  | [d1, d2] => { results := [.lit (.bool false)], args := [d1, d2] }
  | _ => none }
def TreeMapWrongFalsely : Prop := treeMapRow.holds Try.pinned (OpenSpec.ofChange treeMapWrong)

/-- 'tiercelaw08.TreeShares': WHATEVER THE INPUT: true; the input reads as it did. -/
def treeSharesSpec : ChangeSpec := { name := "treeShares", fn := fun _ => fun
  | [d1, d2] => { results := [.lit (.bool true)], args := [d1, d2] }
  | _ => none }
def treeSharesRow : OpenClaim := { program := "ytngehbhhpkkijaa", sum := "4db6b92701630fb7bef6002118b4153d534bbfab800de6af906b8917048c7bcb", func := "tierce/tiercelaw08.TreeShares", spec := "treeShares", inPlace := ["slices.overlaps[tierce/api.Pair]"], unfollowed := true, recurses := true, plainKeys := false, apart := false }
def TreeSharesSaid : Prop := treeSharesRow.holds Try.pinned (OpenSpec.ofChange treeSharesSpec)

/-- ITS FALSE NEIGHBOUR: 'it returns false'. Refute it at one input. -/
def treeSharesWrong : ChangeSpec := { name := "treeShares", fn := fun _ => fun
  | [d1, d2] => { results := [.lit (.bool false)], args := [d1, d2] }
  | _ => none }
def TreeSharesWrongFalsely : Prop := treeSharesRow.holds Try.pinned (OpenSpec.ofChange treeSharesWrong)

/-- 'tiercelaw08.TreeOrder': WHATEVER THE INPUT: true; the input reads as it did. -/
def treeOrderSpec : ChangeSpec := { name := "treeOrder", fn := fun _ => fun
  | [d1, d2, d3, d4] => { results := [.lit (.bool true)], args := [d1, d2, d3, d4] }
  | _ => none }
def treeOrderRow : OpenClaim := { program := "ytngehbhhpkkijaa", sum := "4db6b92701630fb7bef6002118b4153d534bbfab800de6af906b8917048c7bcb", func := "tierce/tiercelaw08.TreeOrder", spec := "treeOrder", inPlace := ["slices.overlaps[tierce/api.Pair]"], unfollowed := true, recurses := true, plainKeys := false, apart := false }
def TreeOrderSaid : Prop := treeOrderRow.holds Try.pinned (OpenSpec.ofChange treeOrderSpec)

/-- ITS FALSE NEIGHBOUR: 'it returns false'. Refute it at one input. -/
def treeOrderWrong : ChangeSpec := { name := "treeOrder", fn := fun _ => fun
  | [d1, d2, d3, d4] => { results := [.lit (.bool false)], args := [d1, d2, d3, d4] }
  | _ => none }
def TreeOrderWrongFalsely : Prop := treeOrderRow.holds Try.pinned (OpenSpec.ofChange treeOrderWrong)

/-- 'tiercelaw08.TreeBuilds': WHATEVER THE INPUT: true; the input reads as it did. -/
def treeBuildsSpec : ChangeSpec := { name := "treeBuilds", fn := fun _ => fun
  | [d1, d2] => { results := [.lit (.bool true)], args := [d1, d2] }
  | _ => none }
def treeBuildsRow : OpenClaim := { program := "ytngehbhhpkkijaa", sum := "4db6b92701630fb7bef6002118b4153d534bbfab800de6af906b8917048c7bcb", func := "tierce/tiercelaw08.TreeBuilds", spec := "treeBuilds", inPlace := ["slices.overlaps[tierce/api.Pair]"], unfollowed := true, recurses := true, plainKeys := false, apart := false }
def TreeBuildsSaid : Prop := treeBuildsRow.holds Try.pinned (OpenSpec.ofChange treeBuildsSpec)

/-- ITS FALSE NEIGHBOUR: 'it returns false'. Refute it at one input. -/
def treeBuildsWrong : ChangeSpec := { name := "treeBuilds", fn := fun _ => fun
  | [d1, d2] => { results := [.lit (.bool false)], args := [d1, d2] }
  | _ => none }
def TreeBuildsWrongFalsely : Prop := treeBuildsRow.holds Try.pinned (OpenSpec.ofChange treeBuildsWrong)

/-- 'tiercelaw12.MapsGood': WHATEVER THE INPUT: true; the input reads as it did. -/
def mapsGoodSpec : ChangeSpec := { name := "mapsGood", fn := fun _ => fun
  | [d1, d2, d3] => { results := [.lit (.bool true)], args := [d1, d2, d3] }
  | _ => none }
def mapsGoodRow : OpenClaim := { program := "ytngehbhhpkkijaa", sum := "4db6b92701630fb7bef6002118b4153d534bbfab800de6af906b8917048c7bcb", func := "tierce/tiercelaw12.MapsGood", spec := "mapsGood", inPlace := ["slices.overlaps[tierce/api.Pair]"], unfollowed := true, recurses := true, plainKeys := false, apart := false }
def MapsGoodSaid : Prop := mapsGoodRow.holds Try.pinned (OpenSpec.ofChange mapsGoodSpec)

/-- ITS FALSE NEIGHBOUR: 'it returns false'. Refute it at one input. -/
def mapsGoodWrong : ChangeSpec := { name := "mapsGood", fn := fun _ => fun
  | [d1, d2, d3] => { results := [.lit (.bool false)], args := [d1, d2, d3] }
  | _ => none }
def MapsGoodWrongFalsely : Prop := mapsGoodRow.holds Try.pinned (OpenSpec.ofChange mapsGoodWrong)

/-- 'tiercelaw12.MapsApart': WHATEVER THE INPUT: true; the input reads as it did. -/
def mapsApartSpec : ChangeSpec := { name := "mapsApart", fn := fun _ => fun
  | [d1, d2, d3] => { results := [.lit (.bool true)], args := [d1, d2, d3] }
  | _ => none }
def mapsApartRow : OpenClaim := { program := "ytngehbhhpkkijaa", sum := "4db6b92701630fb7bef6002118b4153d534bbfab800de6af906b8917048c7bcb", func := "tierce/tiercelaw12.MapsApart", spec := "mapsApart", inPlace := ["slices.overlaps[tierce/api.Pair]"], unfollowed := true, recurses := true, plainKeys := false, apart := false }
def MapsApartSaid : Prop := mapsApartRow.holds Try.pinned (OpenSpec.ofChange mapsApartSpec)

/-- ITS FALSE NEIGHBOUR: 'it returns false'. Refute it at one input. -/
def mapsApartWrong : ChangeSpec := { name := "mapsApart", fn := fun _ => fun
  | [d1, d2, d3] => { results := [.lit (.bool false)], args := [d1, d2, d3] }
  | _ => none }
def MapsApartWrongFalsely : Prop := mapsApartRow.holds Try.pinned (OpenSpec.ofChange mapsApartWrong)

/-- 'tiercelaw12.MapsExact': WHATEVER THE INPUT: true; the input reads as it did. -/
def mapsExactSpec : ChangeSpec := { name := "mapsExact", fn := fun _ => fun
  | [d] => { results := [.lit (.bool true)], args := [d] }
  | _ => none }
def mapsExactRow : OpenClaim := { program := "ytngehbhhpkkijaa", sum := "4db6b92701630fb7bef6002118b4153d534bbfab800de6af906b8917048c7bcb", func := "tierce/tiercelaw12.MapsExact", spec := "mapsExact", inPlace := ["slices.overlaps[tierce/api.Pair]"], unfollowed := true, recurses := true, plainKeys := false, apart := false }
def MapsExactSaid : Prop := mapsExactRow.holds Try.pinned (OpenSpec.ofChange mapsExactSpec)

/-- ITS FALSE NEIGHBOUR: 'it returns false'. Refute it at one input. -/
def mapsExactWrong : ChangeSpec := { name := "mapsExact", fn := fun _ => fun
  | [d] => { results := [.lit (.bool false)], args := [d] }
  | _ => none }
def MapsExactWrongFalsely : Prop := mapsExactRow.holds Try.pinned (OpenSpec.ofChange mapsExactWrong)

/-- 'tiercelaw11.VolsList': WHATEVER THE INPUT: true; the input reads as it did. -/
def volsListSpec : ChangeSpec := { name := "volsList", fn := fun _ => fun
  | [d] => { results := [.lit (.bool true)], args := [d] }
  | _ => none }
def volsListRow : OpenClaim := { program := "ytngehbhhpkkijaa", sum := "4db6b92701630fb7bef6002118b4153d534bbfab800de6af906b8917048c7bcb", func := "tierce/tiercelaw11.VolsList", spec := "volsList", inPlace := ["slices.overlaps[tierce/api.Pair]"], unfollowed := true, recurses := true, plainKeys := false, apart := false }
def VolsListSaid : Prop := volsListRow.holds Try.pinned (OpenSpec.ofChange volsListSpec)

/-- ITS FALSE NEIGHBOUR: 'it returns false'. Refute it at one input. -/
def volsListWrong : ChangeSpec := { name := "volsList", fn := fun _ => fun
  | [d] => { results := [.lit (.bool false)], args := [d] }
  | _ => none }
def VolsListWrongFalsely : Prop := volsListRow.holds Try.pinned (OpenSpec.ofChange volsListWrong)

/-- 'tiercelaw11.VolsApart': WHATEVER THE INPUT: true; the input reads as it did. -/
def volsApartSpec : ChangeSpec := { name := "volsApart", fn := fun _ => fun
  | [d1, d2] => { results := [.lit (.bool true)], args := [d1, d2] }
  | _ => none }
def volsApartRow : OpenClaim := { program := "ytngehbhhpkkijaa", sum := "4db6b92701630fb7bef6002118b4153d534bbfab800de6af906b8917048c7bcb", func := "tierce/tiercelaw11.VolsApart", spec := "volsApart", inPlace := ["slices.overlaps[tierce/api.Pair]"], unfollowed := true, recurses := true, plainKeys := false, apart := false }
def VolsApartSaid : Prop := volsApartRow.holds Try.pinned (OpenSpec.ofChange volsApartSpec)

/-- ITS FALSE NEIGHBOUR: 'it returns false'. Refute it at one input. -/
def volsApartWrong : ChangeSpec := { name := "volsApart", fn := fun _ => fun
  | [d1, d2] => { results := [.lit (.bool false)], args := [d1, d2] }
  | _ => none }
def VolsApartWrongFalsely : Prop := volsApartRow.holds Try.pinned (OpenSpec.ofChange volsApartWrong)

/-- 'tiercelaw14.PlaceMoves': WHATEVER THE INPUT: true; the input reads as it did. -/
def placeMovesSpec : ChangeSpec := { name := "placeMoves", fn := fun _ => fun
  | [d1, d2, d3] => { results := [.lit (.bool true)], args := [d1, d2, d3] }
  | _ => none }
def placeMovesRow : OpenClaim := { program := "ytngehbhhpkkijaa", sum := "4db6b92701630fb7bef6002118b4153d534bbfab800de6af906b8917048c7bcb", func := "tierce/tiercelaw14.PlaceMoves", spec := "placeMoves", inPlace := ["slices.overlaps[tierce/api.Pair]"], unfollowed := true, recurses := true, plainKeys := false, apart := false }
def PlaceMovesSaid : Prop := placeMovesRow.holds Try.pinned (OpenSpec.ofChange placeMovesSpec)

/-- ITS FALSE NEIGHBOUR: 'it returns false'. Refute it at one input. -/
def placeMovesWrong : ChangeSpec := { name := "placeMoves", fn := fun _ => fun
  | [d1, d2, d3] => { results := [.lit (.bool false)], args := [d1, d2, d3] }
  | _ => none }
def PlaceMovesWrongFalsely : Prop := placeMovesRow.holds Try.pinned (OpenSpec.ofChange placeMovesWrong)

/-- 'tiercelaw14.PlaceList': WHATEVER THE INPUT: true; the input reads as it did. -/
def placeListSpec : ChangeSpec := { name := "placeList", fn := fun _ => fun
  | [d] => { results := [.lit (.bool true)], args := [d] }
  | _ => none }
def placeListRow : OpenClaim := { program := "ytngehbhhpkkijaa", sum := "4db6b92701630fb7bef6002118b4153d534bbfab800de6af906b8917048c7bcb", func := "tierce/tiercelaw14.PlaceList", spec := "placeList", inPlace := ["slices.overlaps[tierce/api.Pair]"], unfollowed := true, recurses := true, plainKeys := false, apart := false }
def PlaceListSaid : Prop := placeListRow.holds Try.pinned (OpenSpec.ofChange placeListSpec)

/-- ITS FALSE NEIGHBOUR: 'it returns false'. Refute it at one input. -/
def placeListWrong : ChangeSpec := { name := "placeList", fn := fun _ => fun
  | [d] => { results := [.lit (.bool false)], args := [d] }
  | _ => none }
def PlaceListWrongFalsely : Prop := placeListRow.holds Try.pinned (OpenSpec.ofChange placeListWrong)

/- THE SECOND FORM. 'bulk': how many values and letters a reading holds, each counted each time it is reached (what is shared counts as often as it is met; a slice's spare places count too). A statement '..UptoSaid' is the law's where the arguments, and the package variables that the reading takes, are together of bulk at most 1048576: NARROWER than '..Said'. Prove '..Said' where nothing that the law and all that it calls make is longer than what came in: it says more and counts as full. Else prove '..UptoSaid'. A law counts once. -/
mutual
def uptoBulk {H : Type} : DataW H → Nat
  | .lit (.string bytes) => bytes.length + 1
  | .lit _ => 1
  | .nil => 1
  | .ptr d => uptoBulk d + 1
  | .slice elems spare => uptoBulkAll elems + uptoBulkAll spare + 1
  | .agg parts => uptoBulkAll parts + 1
  | .iface _ d => uptoBulk d + 1
  | .map entries => uptoBulkEntries entries + 1
  | .held _ => 1
def uptoBulkAll {H : Type} : List (DataW H) → Nat
  | [] => 0
  | d :: r => uptoBulk d + uptoBulkAll r
def uptoBulkEntries {H : Type} : List (Lit × DataW H) → Nat
  | [] => 0
  | x :: r => uptoBulkEntry x + uptoBulkEntries r
def uptoBulkEntry {H : Type} : Lit × DataW H → Nat
  | (.string bytes, d) => bytes.length + uptoBulk d + 1
  | (_, d) => uptoBulk d + 1
 end
def uptoSmall : (H : Type) → List (DataW H) → Bool := fun _ ds => decide (uptoBulkAll ds ≤ 1048576)
def OpenSpec.upto (s : _root_.Go.ChangeSpec) : _root_.Go.OpenSpec := { _root_.Go.OpenSpec.ofChange s with cond := some uptoSmall }

/-- 'tiercelaw08.TreeMap', WHERE WHAT IT READS IS OF BULK AT MOST 1048576: true; the input reads as it did. -/
def treeMapUptoRow : OpenClaim := { program := "ytngehbhhpkkijaa", sum := "4db6b92701630fb7bef6002118b4153d534bbfab800de6af906b8917048c7bcb", func := "tierce/tiercelaw08.TreeMap", spec := "treeMap", inPlace := ["slices.overlaps[tierce/api.Pair]"], unfollowed := true, recurses := true, plainKeys := false, apart := false, narrowed := true }
def TreeMapUptoSaid : Prop := treeMapUptoRow.holds Try.pinned (OpenSpec.upto treeMapSpec)

/-- 'tiercelaw08.TreeShares', WHERE WHAT IT READS IS OF BULK AT MOST 1048576: true; the input reads as it did. -/
def treeSharesUptoRow : OpenClaim := { program := "ytngehbhhpkkijaa", sum := "4db6b92701630fb7bef6002118b4153d534bbfab800de6af906b8917048c7bcb", func := "tierce/tiercelaw08.TreeShares", spec := "treeShares", inPlace := ["slices.overlaps[tierce/api.Pair]"], unfollowed := true, recurses := true, plainKeys := false, apart := false, narrowed := true }
def TreeSharesUptoSaid : Prop := treeSharesUptoRow.holds Try.pinned (OpenSpec.upto treeSharesSpec)

/-- 'tiercelaw08.TreeOrder', WHERE WHAT IT READS IS OF BULK AT MOST 1048576: true; the input reads as it did. -/
def treeOrderUptoRow : OpenClaim := { program := "ytngehbhhpkkijaa", sum := "4db6b92701630fb7bef6002118b4153d534bbfab800de6af906b8917048c7bcb", func := "tierce/tiercelaw08.TreeOrder", spec := "treeOrder", inPlace := ["slices.overlaps[tierce/api.Pair]"], unfollowed := true, recurses := true, plainKeys := false, apart := false, narrowed := true }
def TreeOrderUptoSaid : Prop := treeOrderUptoRow.holds Try.pinned (OpenSpec.upto treeOrderSpec)

/-- 'tiercelaw08.TreeBuilds', WHERE WHAT IT READS IS OF BULK AT MOST 1048576: true; the input reads as it did. -/
def treeBuildsUptoRow : OpenClaim := { program := "ytngehbhhpkkijaa", sum := "4db6b92701630fb7bef6002118b4153d534bbfab800de6af906b8917048c7bcb", func := "tierce/tiercelaw08.TreeBuilds", spec := "treeBuilds", inPlace := ["slices.overlaps[tierce/api.Pair]"], unfollowed := true, recurses := true, plainKeys := false, apart := false, narrowed := true }
def TreeBuildsUptoSaid : Prop := treeBuildsUptoRow.holds Try.pinned (OpenSpec.upto treeBuildsSpec)

/-- 'tiercelaw12.MapsGood', WHERE WHAT IT READS IS OF BULK AT MOST 1048576: true; the input reads as it did. -/
def mapsGoodUptoRow : OpenClaim := { program := "ytngehbhhpkkijaa", sum := "4db6b92701630fb7bef6002118b4153d534bbfab800de6af906b8917048c7bcb", func := "tierce/tiercelaw12.MapsGood", spec := "mapsGood", inPlace := ["slices.overlaps[tierce/api.Pair]"], unfollowed := true, recurses := true, plainKeys := false, apart := false, narrowed := true }
def MapsGoodUptoSaid : Prop := mapsGoodUptoRow.holds Try.pinned (OpenSpec.upto mapsGoodSpec)

/-- 'tiercelaw12.MapsApart', WHERE WHAT IT READS IS OF BULK AT MOST 1048576: true; the input reads as it did. -/
def mapsApartUptoRow : OpenClaim := { program := "ytngehbhhpkkijaa", sum := "4db6b92701630fb7bef6002118b4153d534bbfab800de6af906b8917048c7bcb", func := "tierce/tiercelaw12.MapsApart", spec := "mapsApart", inPlace := ["slices.overlaps[tierce/api.Pair]"], unfollowed := true, recurses := true, plainKeys := false, apart := false, narrowed := true }
def MapsApartUptoSaid : Prop := mapsApartUptoRow.holds Try.pinned (OpenSpec.upto mapsApartSpec)

/-- 'tiercelaw12.MapsExact', WHERE WHAT IT READS IS OF BULK AT MOST 1048576: true; the input reads as it did. -/
def mapsExactUptoRow : OpenClaim := { program := "ytngehbhhpkkijaa", sum := "4db6b92701630fb7bef6002118b4153d534bbfab800de6af906b8917048c7bcb", func := "tierce/tiercelaw12.MapsExact", spec := "mapsExact", inPlace := ["slices.overlaps[tierce/api.Pair]"], unfollowed := true, recurses := true, plainKeys := false, apart := false, narrowed := true }
def MapsExactUptoSaid : Prop := mapsExactUptoRow.holds Try.pinned (OpenSpec.upto mapsExactSpec)

/-- 'tiercelaw11.VolsList', WHERE WHAT IT READS IS OF BULK AT MOST 1048576: true; the input reads as it did. -/
def volsListUptoRow : OpenClaim := { program := "ytngehbhhpkkijaa", sum := "4db6b92701630fb7bef6002118b4153d534bbfab800de6af906b8917048c7bcb", func := "tierce/tiercelaw11.VolsList", spec := "volsList", inPlace := ["slices.overlaps[tierce/api.Pair]"], unfollowed := true, recurses := true, plainKeys := false, apart := false, narrowed := true }
def VolsListUptoSaid : Prop := volsListUptoRow.holds Try.pinned (OpenSpec.upto volsListSpec)

/-- 'tiercelaw11.VolsApart', WHERE WHAT IT READS IS OF BULK AT MOST 1048576: true; the input reads as it did. -/
def volsApartUptoRow : OpenClaim := { program := "ytngehbhhpkkijaa", sum := "4db6b92701630fb7bef6002118b4153d534bbfab800de6af906b8917048c7bcb", func := "tierce/tiercelaw11.VolsApart", spec := "volsApart", inPlace := ["slices.overlaps[tierce/api.Pair]"], unfollowed := true, recurses := true, plainKeys := false, apart := false, narrowed := true }
def VolsApartUptoSaid : Prop := volsApartUptoRow.holds Try.pinned (OpenSpec.upto volsApartSpec)

/-- 'tiercelaw14.PlaceMoves', WHERE WHAT IT READS IS OF BULK AT MOST 1048576: true; the input reads as it did. -/
def placeMovesUptoRow : OpenClaim := { program := "ytngehbhhpkkijaa", sum := "4db6b92701630fb7bef6002118b4153d534bbfab800de6af906b8917048c7bcb", func := "tierce/tiercelaw14.PlaceMoves", spec := "placeMoves", inPlace := ["slices.overlaps[tierce/api.Pair]"], unfollowed := true, recurses := true, plainKeys := false, apart := false, narrowed := true }
def PlaceMovesUptoSaid : Prop := placeMovesUptoRow.holds Try.pinned (OpenSpec.upto placeMovesSpec)

/-- 'tiercelaw14.PlaceList', WHERE WHAT IT READS IS OF BULK AT MOST 1048576: true; the input reads as it did. -/
def placeListUptoRow : OpenClaim := { program := "ytngehbhhpkkijaa", sum := "4db6b92701630fb7bef6002118b4153d534bbfab800de6af906b8917048c7bcb", func := "tierce/tiercelaw14.PlaceList", spec := "placeList", inPlace := ["slices.overlaps[tierce/api.Pair]"], unfollowed := true, recurses := true, plainKeys := false, apart := false, narrowed := true }
def PlaceListUptoSaid : Prop := placeListUptoRow.holds Try.pinned (OpenSpec.upto placeListSpec)

end Rows
end Go.Proofs.Ytngehbhhpkkijaa
