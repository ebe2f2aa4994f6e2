/-
  No cell of these rows narrows 'for every input' (looked for: loops, veiled, ifaces, maps, wideKeys, modest, calm, conditions, laid).
  DERIVED. THE GIVEN ROWS OF THIS SEAT. 10 by the template 'for every input the law returns true; each argument reads behind the call as it read before'; 0 by the template 'total and deterministic' (their statements: YtkeloklncjfddaaTotals.lean).
  GIVEN WITH THE SEED: the statements are not yours to turn. If you find one false, say at which input.
  Laid BY PROGRAM, IN A SANDBOX (cutbox-rows.mjs): the forced cells as the released guide's own fill.sh prints them over the translation c11045d8e9e70eec… (all of the seat's roots in one cut). By AI agents, Wed Nov 11 2026. No macro, syntax, notation, axiom, sorry.
-/
import Derived.Test.YtkeloklncjfddaaChecked
import GoSem.Claim
import GoSem.ClaimJoined
import GoSem.ClaimMapViews
import Derived.JoinedTies
import Derived.KernelRfl
namespace Go.Proofs.Ytkeloklncjfddaa
/- THE CELL 'sum', in the pinned program and in every row, IS THE sha256 OF THE DUMP (.gsa) THAT YtkeloklncjfddaaProg.lean LOADS. Nothing in Lean hashes anything: it is a label: what it is worth is what the hold of that sum in a sandbox is worth. -/
noncomputable def Try.pinned : Pinned := { name := "ytkeloklncjfddaa", sum := "c11045d8e9e70eec49c460b68af8a2e3fedb42cb70b8edd3fa0c93a41c6967b4", checked := Try.checked }
namespace Rows
def none {H : Type} : Left H := { results := [], args := [] }

/-- 'tiercelaw11.VolsExact': WHATEVER THE INPUT: true; the input reads as it did. -/
def volsExactSpec : ChangeSpec := { name := "volsExact", fn := fun _ => fun
  | [d1, d2] => { results := [.lit (.bool true)], args := [d1, d2] }
  | _ => none }
def volsExactRow : OpenClaim := { program := "ytkeloklncjfddaa", sum := "c11045d8e9e70eec49c460b68af8a2e3fedb42cb70b8edd3fa0c93a41c6967b4", func := "tierce/tiercelaw11.VolsExact", spec := "volsExact", plainKeys := false, apart := false }
def VolsExactSaid : Prop := volsExactRow.holds Try.pinned (OpenSpec.ofChange volsExactSpec)

/-- ITS FALSE NEIGHBOUR: 'it returns false'. Refute it at one input. -/
def volsExactWrong : ChangeSpec := { name := "volsExact", fn := fun _ => fun
  | [d1, d2] => { results := [.lit (.bool false)], args := [d1, d2] }
  | _ => none }
def VolsExactWrongFalsely : Prop := volsExactRow.holds Try.pinned (OpenSpec.ofChange volsExactWrong)

/-- 'tiercelaw14.PlaceExact': WHATEVER THE INPUT: true; the input reads as it did. -/
def placeExactSpec : ChangeSpec := { name := "placeExact", fn := fun _ => fun
  | [d1, d2, d3, d4] => { results := [.lit (.bool true)], args := [d1, d2, d3, d4] }
  | _ => none }
def placeExactRow : OpenClaim := { program := "ytkeloklncjfddaa", sum := "c11045d8e9e70eec49c460b68af8a2e3fedb42cb70b8edd3fa0c93a41c6967b4", func := "tierce/tiercelaw14.PlaceExact", spec := "placeExact", plainKeys := false, apart := false }
def PlaceExactSaid : Prop := placeExactRow.holds Try.pinned (OpenSpec.ofChange placeExactSpec)

/-- ITS FALSE NEIGHBOUR: 'it returns false'. Refute it at one input. -/
def placeExactWrong : ChangeSpec := { name := "placeExact", fn := fun _ => fun
  | [d1, d2, d3, d4] => { results := [.lit (.bool false)], args := [d1, d2, d3, d4] }
  | _ => none }
def PlaceExactWrongFalsely : Prop := placeExactRow.holds Try.pinned (OpenSpec.ofChange placeExactWrong)

/-- 'tiercelaw03.MainsFuse': WHATEVER THE INPUT: true; the input reads as it did. -/
def mainsFuseSpec : ChangeSpec := { name := "mainsFuse", fn := fun _ => fun
  | [d1, d2] => { results := [.lit (.bool true)], args := [d1, d2] }
  | _ => none }
def mainsFuseRow : OpenClaim := { program := "ytkeloklncjfddaa", sum := "c11045d8e9e70eec49c460b68af8a2e3fedb42cb70b8edd3fa0c93a41c6967b4", func := "tierce/tiercelaw03.MainsFuse", spec := "mainsFuse", plainKeys := false, apart := false }
def MainsFuseSaid : Prop := mainsFuseRow.holds Try.pinned (OpenSpec.ofChange mainsFuseSpec)

/-- ITS FALSE NEIGHBOUR: 'it returns false'. Refute it at one input. -/
def mainsFuseWrong : ChangeSpec := { name := "mainsFuse", fn := fun _ => fun
  | [d1, d2] => { results := [.lit (.bool false)], args := [d1, d2] }
  | _ => none }
def MainsFuseWrongFalsely : Prop := mainsFuseRow.holds Try.pinned (OpenSpec.ofChange mainsFuseWrong)

/-- 'tiercelaw03.MainsExact': WHATEVER THE INPUT: true; the input reads as it did. -/
def mainsExactSpec : ChangeSpec := { name := "mainsExact", fn := fun _ => fun
  | [d1, d2] => { results := [.lit (.bool true)], args := [d1, d2] }
  | _ => none }
def mainsExactRow : OpenClaim := { program := "ytkeloklncjfddaa", sum := "c11045d8e9e70eec49c460b68af8a2e3fedb42cb70b8edd3fa0c93a41c6967b4", func := "tierce/tiercelaw03.MainsExact", spec := "mainsExact", plainKeys := false, apart := false }
def MainsExactSaid : Prop := mainsExactRow.holds Try.pinned (OpenSpec.ofChange mainsExactSpec)

/-- ITS FALSE NEIGHBOUR: 'it returns false'. Refute it at one input. -/
def mainsExactWrong : ChangeSpec := { name := "mainsExact", fn := fun _ => fun
  | [d1, d2] => { results := [.lit (.bool false)], args := [d1, d2] }
  | _ => none }
def MainsExactWrongFalsely : Prop := mainsExactRow.holds Try.pinned (OpenSpec.ofChange mainsExactWrong)

/-- 'tiercelaw03.MainsLives': WHATEVER THE INPUT: true; the input reads as it did. -/
def mainsLivesSpec : ChangeSpec := { name := "mainsLives", fn := fun _ => fun
  | [d] => { results := [.lit (.bool true)], args := [d] }
  | _ => none }
def mainsLivesRow : OpenClaim := { program := "ytkeloklncjfddaa", sum := "c11045d8e9e70eec49c460b68af8a2e3fedb42cb70b8edd3fa0c93a41c6967b4", func := "tierce/tiercelaw03.MainsLives", spec := "mainsLives", plainKeys := false, apart := false }
def MainsLivesSaid : Prop := mainsLivesRow.holds Try.pinned (OpenSpec.ofChange mainsLivesSpec)

/-- ITS FALSE NEIGHBOUR: 'it returns false'. Refute it at one input. -/
def mainsLivesWrong : ChangeSpec := { name := "mainsLives", fn := fun _ => fun
  | [d] => { results := [.lit (.bool false)], args := [d] }
  | _ => none }
def MainsLivesWrongFalsely : Prop := mainsLivesRow.holds Try.pinned (OpenSpec.ofChange mainsLivesWrong)

/-- 'tiercelaw30.DiffBack': WHATEVER THE INPUT: true; the input reads as it did. -/
def diffBackSpec : ChangeSpec := { name := "diffBack", fn := fun _ => fun
  | [d1, d2] => { results := [.lit (.bool true)], args := [d1, d2] }
  | _ => none }
def diffBackRow : OpenClaim := { program := "ytkeloklncjfddaa", sum := "c11045d8e9e70eec49c460b68af8a2e3fedb42cb70b8edd3fa0c93a41c6967b4", func := "tierce/tiercelaw30.DiffBack", spec := "diffBack", unfollowed := true, recurses := true, plainKeys := false, apart := false }
def DiffBackSaid : Prop := diffBackRow.holds Try.pinned (OpenSpec.ofChange diffBackSpec)

/-- ITS FALSE NEIGHBOUR: 'it returns false'. Refute it at one input. -/
def diffBackWrong : ChangeSpec := { name := "diffBack", fn := fun _ => fun
  | [d1, d2] => { results := [.lit (.bool false)], args := [d1, d2] }
  | _ => none }
def DiffBackWrongFalsely : Prop := diffBackRow.holds Try.pinned (OpenSpec.ofChange diffBackWrong)

/-- 'tiercelaw30.DiffThree': WHATEVER THE INPUT: true; the input reads as it did. -/
def diffThreeSpec : ChangeSpec := { name := "diffThree", fn := fun _ => fun
  | [d1, d2, d3, d4] => { results := [.lit (.bool true)], args := [d1, d2, d3, d4] }
  | _ => none }
def diffThreeRow : OpenClaim := { program := "ytkeloklncjfddaa", sum := "c11045d8e9e70eec49c460b68af8a2e3fedb42cb70b8edd3fa0c93a41c6967b4", func := "tierce/tiercelaw30.DiffThree", spec := "diffThree", unfollowed := true, recurses := true, plainKeys := false, apart := false }
def DiffThreeSaid : Prop := diffThreeRow.holds Try.pinned (OpenSpec.ofChange diffThreeSpec)

/-- ITS FALSE NEIGHBOUR: 'it returns false'. Refute it at one input. -/
def diffThreeWrong : ChangeSpec := { name := "diffThree", fn := fun _ => fun
  | [d1, d2, d3, d4] => { results := [.lit (.bool false)], args := [d1, d2, d3, d4] }
  | _ => none }
def DiffThreeWrongFalsely : Prop := diffThreeRow.holds Try.pinned (OpenSpec.ofChange diffThreeWrong)

/-- 'tiercelaw02.CastleExact': WHATEVER THE INPUT: true; the input reads as it did. -/
def castleExactSpec : ChangeSpec := { name := "castleExact", fn := fun _ => fun
  | [d] => { results := [.lit (.bool true)], args := [d] }
  | _ => none }
def castleExactRow : OpenClaim := { program := "ytkeloklncjfddaa", sum := "c11045d8e9e70eec49c460b68af8a2e3fedb42cb70b8edd3fa0c93a41c6967b4", func := "tierce/tiercelaw02.CastleExact", spec := "castleExact", inPlace := ["internal/abi.NoEscape"], plainKeys := false, apart := false }
def CastleExactSaid : Prop := castleExactRow.holds Try.pinned (OpenSpec.ofChange castleExactSpec)

/-- ITS FALSE NEIGHBOUR: 'it returns false'. Refute it at one input. -/
def castleExactWrong : ChangeSpec := { name := "castleExact", fn := fun _ => fun
  | [d] => { results := [.lit (.bool false)], args := [d] }
  | _ => none }
def CastleExactWrongFalsely : Prop := castleExactRow.holds Try.pinned (OpenSpec.ofChange castleExactWrong)

/-- 'tiercelaw02.CastleTells': WHATEVER THE INPUT: true; the input reads as it did. -/
def castleTellsSpec : ChangeSpec := { name := "castleTells", fn := fun _ => fun
  | [d1, d2, d3] => { results := [.lit (.bool true)], args := [d1, d2, d3] }
  | _ => none }
def castleTellsRow : OpenClaim := { program := "ytkeloklncjfddaa", sum := "c11045d8e9e70eec49c460b68af8a2e3fedb42cb70b8edd3fa0c93a41c6967b4", func := "tierce/tiercelaw02.CastleTells", spec := "castleTells", inPlace := ["internal/abi.NoEscape"], plainKeys := false, apart := false }
def CastleTellsSaid : Prop := castleTellsRow.holds Try.pinned (OpenSpec.ofChange castleTellsSpec)

/-- ITS FALSE NEIGHBOUR: 'it returns false'. Refute it at one input. -/
def castleTellsWrong : ChangeSpec := { name := "castleTells", fn := fun _ => fun
  | [d1, d2, d3] => { results := [.lit (.bool false)], args := [d1, d2, d3] }
  | _ => none }
def CastleTellsWrongFalsely : Prop := castleTellsRow.holds Try.pinned (OpenSpec.ofChange castleTellsWrong)

/-- 'tiercelaw02.CastleParts': WHATEVER THE INPUT: true; the input reads as it did. -/
def castlePartsSpec : ChangeSpec := { name := "castleParts", fn := fun _ => fun
  | [d1, d2, d3, d4] => { results := [.lit (.bool true)], args := [d1, d2, d3, d4] }
  | _ => none }
def castlePartsRow : OpenClaim := { program := "ytkeloklncjfddaa", sum := "c11045d8e9e70eec49c460b68af8a2e3fedb42cb70b8edd3fa0c93a41c6967b4", func := "tierce/tiercelaw02.CastleParts", spec := "castleParts", inPlace := ["internal/abi.NoEscape"], plainKeys := false, apart := false }
def CastlePartsSaid : Prop := castlePartsRow.holds Try.pinned (OpenSpec.ofChange castlePartsSpec)

/-- ITS FALSE NEIGHBOUR: 'it returns false'. Refute it at one input. -/
def castlePartsWrong : ChangeSpec := { name := "castleParts", fn := fun _ => fun
  | [d1, d2, d3, d4] => { results := [.lit (.bool false)], args := [d1, d2, d3, d4] }
  | _ => none }
def CastlePartsWrongFalsely : Prop := castlePartsRow.holds Try.pinned (OpenSpec.ofChange castlePartsWrong)

/- THE SECOND FORM. 'bulk': how many values and letters a reading holds, each counted each time it is reached (what is shared counts as often as it is met; a slice's spare places count too). A statement '..UptoSaid' is the law's where the arguments, and the package variables that the reading takes, are together of bulk at most 1048576: NARROWER than '..Said'. Prove '..Said' where nothing that the law and all that it calls make is longer than what came in: it says more and counts as full. Else prove '..UptoSaid'. A law counts once. -/
mutual
def uptoBulk {H : Type} : DataW H → Nat
  | .lit (.string bytes) => bytes.length + 1
  | .lit _ => 1
  | .nil => 1
  | .ptr d => uptoBulk d + 1
  | .slice elems spare => uptoBulkAll elems + uptoBulkAll spare + 1
  | .agg parts => uptoBulkAll parts + 1
  | .iface _ d => uptoBulk d + 1
  | .map entries => uptoBulkEntries entries + 1
  | .held _ => 1
def uptoBulkAll {H : Type} : List (DataW H) → Nat
  | [] => 0
  | d :: r => uptoBulk d + uptoBulkAll r
def uptoBulkEntries {H : Type} : List (Lit × DataW H) → Nat
  | [] => 0
  | x :: r => uptoBulkEntry x + uptoBulkEntries r
def uptoBulkEntry {H : Type} : Lit × DataW H → Nat
  | (.string bytes, d) => bytes.length + uptoBulk d + 1
  | (_, d) => uptoBulk d + 1
 end
def uptoSmall : (H : Type) → List (DataW H) → Bool := fun _ ds => decide (uptoBulkAll ds ≤ 1048576)
def OpenSpec.upto (s : _root_.Go.ChangeSpec) : _root_.Go.OpenSpec := { _root_.Go.OpenSpec.ofChange s with cond := some uptoSmall }

/-- 'tiercelaw11.VolsExact', WHERE WHAT IT READS IS OF BULK AT MOST 1048576: true; the input reads as it did. -/
def volsExactUptoRow : OpenClaim := { program := "ytkeloklncjfddaa", sum := "c11045d8e9e70eec49c460b68af8a2e3fedb42cb70b8edd3fa0c93a41c6967b4", func := "tierce/tiercelaw11.VolsExact", spec := "volsExact", plainKeys := false, apart := false, narrowed := true }
def VolsExactUptoSaid : Prop := volsExactUptoRow.holds Try.pinned (OpenSpec.upto volsExactSpec)

/-- 'tiercelaw14.PlaceExact', WHERE WHAT IT READS IS OF BULK AT MOST 1048576: true; the input reads as it did. -/
def placeExactUptoRow : OpenClaim := { program := "ytkeloklncjfddaa", sum := "c11045d8e9e70eec49c460b68af8a2e3fedb42cb70b8edd3fa0c93a41c6967b4", func := "tierce/tiercelaw14.PlaceExact", spec := "placeExact", plainKeys := false, apart := false, narrowed := true }
def PlaceExactUptoSaid : Prop := placeExactUptoRow.holds Try.pinned (OpenSpec.upto placeExactSpec)

/-- 'tiercelaw03.MainsFuse', WHERE WHAT IT READS IS OF BULK AT MOST 1048576: true; the input reads as it did. -/
def mainsFuseUptoRow : OpenClaim := { program := "ytkeloklncjfddaa", sum := "c11045d8e9e70eec49c460b68af8a2e3fedb42cb70b8edd3fa0c93a41c6967b4", func := "tierce/tiercelaw03.MainsFuse", spec := "mainsFuse", plainKeys := false, apart := false, narrowed := true }
def MainsFuseUptoSaid : Prop := mainsFuseUptoRow.holds Try.pinned (OpenSpec.upto mainsFuseSpec)

/-- 'tiercelaw03.MainsExact', WHERE WHAT IT READS IS OF BULK AT MOST 1048576: true; the input reads as it did. -/
def mainsExactUptoRow : OpenClaim := { program := "ytkeloklncjfddaa", sum := "c11045d8e9e70eec49c460b68af8a2e3fedb42cb70b8edd3fa0c93a41c6967b4", func := "tierce/tiercelaw03.MainsExact", spec := "mainsExact", plainKeys := false, apart := false, narrowed := true }
def MainsExactUptoSaid : Prop := mainsExactUptoRow.holds Try.pinned (OpenSpec.upto mainsExactSpec)

/-- 'tiercelaw03.MainsLives', WHERE WHAT IT READS IS OF BULK AT MOST 1048576: true; the input reads as it did. -/
def mainsLivesUptoRow : OpenClaim := { program := "ytkeloklncjfddaa", sum := "c11045d8e9e70eec49c460b68af8a2e3fedb42cb70b8edd3fa0c93a41c6967b4", func := "tierce/tiercelaw03.MainsLives", spec := "mainsLives", plainKeys := false, apart := false, narrowed := true }
def MainsLivesUptoSaid : Prop := mainsLivesUptoRow.holds Try.pinned (OpenSpec.upto mainsLivesSpec)

/-- 'tiercelaw30.DiffBack', WHERE WHAT IT READS IS OF BULK AT MOST 1048576: true; the input reads as it did. -/
def diffBackUptoRow : OpenClaim := { program := "ytkeloklncjfddaa", sum := "c11045d8e9e70eec49c460b68af8a2e3fedb42cb70b8edd3fa0c93a41c6967b4", func := "tierce/tiercelaw30.DiffBack", spec := "diffBack", unfollowed := true, recurses := true, plainKeys := false, apart := false, narrowed := true }
def DiffBackUptoSaid : Prop := diffBackUptoRow.holds Try.pinned (OpenSpec.upto diffBackSpec)

/-- 'tiercelaw30.DiffThree', WHERE WHAT IT READS IS OF BULK AT MOST 1048576: true; the input reads as it did. -/
def diffThreeUptoRow : OpenClaim := { program := "ytkeloklncjfddaa", sum := "c11045d8e9e70eec49c460b68af8a2e3fedb42cb70b8edd3fa0c93a41c6967b4", func := "tierce/tiercelaw30.DiffThree", spec := "diffThree", unfollowed := true, recurses := true, plainKeys := false, apart := false, narrowed := true }
def DiffThreeUptoSaid : Prop := diffThreeUptoRow.holds Try.pinned (OpenSpec.upto diffThreeSpec)

/-- 'tiercelaw02.CastleExact', WHERE WHAT IT READS IS OF BULK AT MOST 1048576: true; the input reads as it did. -/
def castleExactUptoRow : OpenClaim := { program := "ytkeloklncjfddaa", sum := "c11045d8e9e70eec49c460b68af8a2e3fedb42cb70b8edd3fa0c93a41c6967b4", func := "tierce/tiercelaw02.CastleExact", spec := "castleExact", inPlace := ["internal/abi.NoEscape"], plainKeys := false, apart := false, narrowed := true }
def CastleExactUptoSaid : Prop := castleExactUptoRow.holds Try.pinned (OpenSpec.upto castleExactSpec)

/-- 'tiercelaw02.CastleTells', WHERE WHAT IT READS IS OF BULK AT MOST 1048576: true; the input reads as it did. -/
def castleTellsUptoRow : OpenClaim := { program := "ytkeloklncjfddaa", sum := "c11045d8e9e70eec49c460b68af8a2e3fedb42cb70b8edd3fa0c93a41c6967b4", func := "tierce/tiercelaw02.CastleTells", spec := "castleTells", inPlace := ["internal/abi.NoEscape"], plainKeys := false, apart := false, narrowed := true }
def CastleTellsUptoSaid : Prop := castleTellsUptoRow.holds Try.pinned (OpenSpec.upto castleTellsSpec)

/-- 'tiercelaw02.CastleParts', WHERE WHAT IT READS IS OF BULK AT MOST 1048576: true; the input reads as it did. -/
def castlePartsUptoRow : OpenClaim := { program := "ytkeloklncjfddaa", sum := "c11045d8e9e70eec49c460b68af8a2e3fedb42cb70b8edd3fa0c93a41c6967b4", func := "tierce/tiercelaw02.CastleParts", spec := "castleParts", inPlace := ["internal/abi.NoEscape"], plainKeys := false, apart := false, narrowed := true }
def CastlePartsUptoSaid : Prop := castlePartsUptoRow.holds Try.pinned (OpenSpec.upto castlePartsSpec)

end Rows
end Go.Proofs.Ytkeloklncjfddaa
