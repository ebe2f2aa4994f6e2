/-
  No cell of these rows narrows 'for every input' (looked for: loops, veiled, ifaces, maps, wideKeys, modest, calm, conditions, laid).
  DERIVED. THE GIVEN ROWS OF THIS SEAT. 4 by the template 'for every input the law returns true; each argument reads behind the call as it read before'; 0 by the template 'total and deterministic' (their statements: YtojilbacloegjaaTotals.lean).
  GIVEN WITH THE SEED: the statements are not yours to turn. If you find one false, say at which input.
  Laid BY PROGRAM, IN A SANDBOX (cutbox-rows.mjs): the forced cells as the released guide's own fill.sh prints them over the translation aeeac56f802ab34b… (all of the seat's roots in one cut). By AI agents, Wed Nov 11 2026. No macro, syntax, notation, axiom, sorry.
-/
import Derived.Test.YtojilbacloegjaaChecked
import GoSem.Claim
import GoSem.ClaimJoined
import GoSem.ClaimMapViews
import Derived.JoinedTies
import Derived.KernelRfl
namespace Go.Proofs.Ytojilbacloegjaa
/- THE CELL 'sum', in the pinned program and in every row, IS THE sha256 OF THE DUMP (.gsa) THAT YtojilbacloegjaaProg.lean LOADS. Nothing in Lean hashes anything: it is a label: what it is worth is what the hold of that sum in a sandbox is worth. -/
noncomputable def Try.pinned : Pinned := { name := "ytojilbacloegjaa", sum := "aeeac56f802ab34b5d6da09a557fc682aa353820d8c54b929f0e182b02baab19", checked := Try.checked }
namespace Rows
def none {H : Type} : Left H := { results := [], args := [] }

/-- 'tiercelaw14.PlaceExact': WHATEVER THE INPUT: true; the input reads as it did. -/
def placeExactSpec : ChangeSpec := { name := "placeExact", fn := fun _ => fun
  | [d1, d2, d3, d4] => { results := [.lit (.bool true)], args := [d1, d2, d3, d4] }
  | _ => none }
def placeExactRow : OpenClaim := { program := "ytojilbacloegjaa", sum := "aeeac56f802ab34b5d6da09a557fc682aa353820d8c54b929f0e182b02baab19", func := "tierce/tiercelaw14.PlaceExact", spec := "placeExact", plainKeys := false, apart := false }
def PlaceExactSaid : Prop := placeExactRow.holds Try.pinned (OpenSpec.ofChange placeExactSpec)

/-- ITS FALSE NEIGHBOUR: 'it returns false'. Refute it at one input. -/
def placeExactWrong : ChangeSpec := { name := "placeExact", fn := fun _ => fun
  | [d1, d2, d3, d4] => { results := [.lit (.bool false)], args := [d1, d2, d3, d4] }
  | _ => none }
def PlaceExactWrongFalsely : Prop := placeExactRow.holds Try.pinned (OpenSpec.ofChange placeExactWrong)

/-- 'tiercelaw15.HeatFades': WHATEVER THE INPUT: true; the input reads as it did. -/
def heatFadesSpec : ChangeSpec := { name := "heatFades", fn := fun _ => fun
  | [d1, d2, d3] => { results := [.lit (.bool true)], args := [d1, d2, d3] }
  | _ => none }
def heatFadesRow : OpenClaim := { program := "ytojilbacloegjaa", sum := "aeeac56f802ab34b5d6da09a557fc682aa353820d8c54b929f0e182b02baab19", func := "tierce/tiercelaw15.HeatFades", spec := "heatFades", unfollowed := true, recurses := true, plainKeys := false, apart := false }
def HeatFadesSaid : Prop := heatFadesRow.holds Try.pinned (OpenSpec.ofChange heatFadesSpec)

/-- ITS FALSE NEIGHBOUR: 'it returns false'. Refute it at one input. -/
def heatFadesWrong : ChangeSpec := { name := "heatFades", fn := fun _ => fun
  | [d1, d2, d3] => { results := [.lit (.bool false)], args := [d1, d2, d3] }
  | _ => none }
def HeatFadesWrongFalsely : Prop := heatFadesRow.holds Try.pinned (OpenSpec.ofChange heatFadesWrong)

/-- 'tiercelaw15.HeatOrder': WHATEVER THE INPUT: true; the input reads as it did. -/
def heatOrderSpec : ChangeSpec := { name := "heatOrder", fn := fun _ => fun
  | [d1, d2, d3] => { results := [.lit (.bool true)], args := [d1, d2, d3] }
  | _ => none }
def heatOrderRow : OpenClaim := { program := "ytojilbacloegjaa", sum := "aeeac56f802ab34b5d6da09a557fc682aa353820d8c54b929f0e182b02baab19", func := "tierce/tiercelaw15.HeatOrder", spec := "heatOrder", unfollowed := true, recurses := true, plainKeys := false, apart := false }
def HeatOrderSaid : Prop := heatOrderRow.holds Try.pinned (OpenSpec.ofChange heatOrderSpec)

/-- ITS FALSE NEIGHBOUR: 'it returns false'. Refute it at one input. -/
def heatOrderWrong : ChangeSpec := { name := "heatOrder", fn := fun _ => fun
  | [d1, d2, d3] => { results := [.lit (.bool false)], args := [d1, d2, d3] }
  | _ => none }
def HeatOrderWrongFalsely : Prop := heatOrderRow.holds Try.pinned (OpenSpec.ofChange heatOrderWrong)

/-- 'tiercelaw15.HeatExact': WHATEVER THE INPUT: true; the input reads as it did. -/
def heatExactSpec : ChangeSpec := { name := "heatExact", fn := fun _ => fun
  | [d] => { results := [.lit (.bool true)], args := [d] }
  | _ => none }
def heatExactRow : OpenClaim := { program := "ytojilbacloegjaa", sum := "aeeac56f802ab34b5d6da09a557fc682aa353820d8c54b929f0e182b02baab19", func := "tierce/tiercelaw15.HeatExact", spec := "heatExact", unfollowed := true, recurses := true, plainKeys := false, apart := false }
def HeatExactSaid : Prop := heatExactRow.holds Try.pinned (OpenSpec.ofChange heatExactSpec)

/-- ITS FALSE NEIGHBOUR: 'it returns false'. Refute it at one input. -/
def heatExactWrong : ChangeSpec := { name := "heatExact", fn := fun _ => fun
  | [d] => { results := [.lit (.bool false)], args := [d] }
  | _ => none }
def HeatExactWrongFalsely : Prop := heatExactRow.holds Try.pinned (OpenSpec.ofChange heatExactWrong)

/- THE SECOND FORM. 'bulk': how many values and letters a reading holds, each counted each time it is reached (what is shared counts as often as it is met; a slice's spare places count too). A statement '..UptoSaid' is the law's where the arguments, and the package variables that the reading takes, are together of bulk at most 1048576: NARROWER than '..Said'. Prove '..Said' where nothing that the law and all that it calls make is longer than what came in: it says more and counts as full. Else prove '..UptoSaid'. A law counts once. -/
mutual
def uptoBulk {H : Type} : DataW H → Nat
  | .lit (.string bytes) => bytes.length + 1
  | .lit _ => 1
  | .nil => 1
  | .ptr d => uptoBulk d + 1
  | .slice elems spare => uptoBulkAll elems + uptoBulkAll spare + 1
  | .agg parts => uptoBulkAll parts + 1
  | .iface _ d => uptoBulk d + 1
  | .map entries => uptoBulkEntries entries + 1
  | .held _ => 1
def uptoBulkAll {H : Type} : List (DataW H) → Nat
  | [] => 0
  | d :: r => uptoBulk d + uptoBulkAll r
def uptoBulkEntries {H : Type} : List (Lit × DataW H) → Nat
  | [] => 0
  | x :: r => uptoBulkEntry x + uptoBulkEntries r
def uptoBulkEntry {H : Type} : Lit × DataW H → Nat
  | (.string bytes, d) => bytes.length + uptoBulk d + 1
  | (_, d) => uptoBulk d + 1
 end
def uptoSmall : (H : Type) → List (DataW H) → Bool := fun _ ds => decide (uptoBulkAll ds ≤ 1048576)
def OpenSpec.upto (s : _root_.Go.ChangeSpec) : _root_.Go.OpenSpec := { _root_.Go.OpenSpec.ofChange s with cond := some uptoSmall }

/-- 'tiercelaw14.PlaceExact', WHERE WHAT IT READS IS OF BULK AT MOST 1048576: true; the input reads as it did. -/
def placeExactUptoRow : OpenClaim := { program := "ytojilbacloegjaa", sum := "aeeac56f802ab34b5d6da09a557fc682aa353820d8c54b929f0e182b02baab19", func := "tierce/tiercelaw14.PlaceExact", spec := "placeExact", plainKeys := false, apart := false, narrowed := true }
def PlaceExactUptoSaid : Prop := placeExactUptoRow.holds Try.pinned (OpenSpec.upto placeExactSpec)

/-- 'tiercelaw15.HeatFades', WHERE WHAT IT READS IS OF BULK AT MOST 1048576: true; the input reads as it did. -/
def heatFadesUptoRow : OpenClaim := { program := "ytojilbacloegjaa", sum := "aeeac56f802ab34b5d6da09a557fc682aa353820d8c54b929f0e182b02baab19", func := "tierce/tiercelaw15.HeatFades", spec := "heatFades", unfollowed := true, recurses := true, plainKeys := false, apart := false, narrowed := true }
def HeatFadesUptoSaid : Prop := heatFadesUptoRow.holds Try.pinned (OpenSpec.upto heatFadesSpec)

/-- 'tiercelaw15.HeatOrder', WHERE WHAT IT READS IS OF BULK AT MOST 1048576: true; the input reads as it did. -/
def heatOrderUptoRow : OpenClaim := { program := "ytojilbacloegjaa", sum := "aeeac56f802ab34b5d6da09a557fc682aa353820d8c54b929f0e182b02baab19", func := "tierce/tiercelaw15.HeatOrder", spec := "heatOrder", unfollowed := true, recurses := true, plainKeys := false, apart := false, narrowed := true }
def HeatOrderUptoSaid : Prop := heatOrderUptoRow.holds Try.pinned (OpenSpec.upto heatOrderSpec)

/-- 'tiercelaw15.HeatExact', WHERE WHAT IT READS IS OF BULK AT MOST 1048576: true; the input reads as it did. -/
def heatExactUptoRow : OpenClaim := { program := "ytojilbacloegjaa", sum := "aeeac56f802ab34b5d6da09a557fc682aa353820d8c54b929f0e182b02baab19", func := "tierce/tiercelaw15.HeatExact", spec := "heatExact", unfollowed := true, recurses := true, plainKeys := false, apart := false, narrowed := true }
def HeatExactUptoSaid : Prop := heatExactUptoRow.holds Try.pinned (OpenSpec.upto heatExactSpec)

end Rows
end Go.Proofs.Ytojilbacloegjaa
