/-
  No cell of these rows narrows 'for every input' (looked for: loops, veiled, ifaces, maps, wideKeys, modest, calm, conditions, laid).
  DERIVED. THE GIVEN ROWS OF THIS SEAT. 3 by the template 'for every input the law returns true; each argument reads behind the call as it read before'; 0 by the template 'total and deterministic' (their statements: YtencbdcfcpohaaaTotals.lean).
  GIVEN WITH THE SEED: the statements are not yours to turn. If you find one false, say at which input.
  Laid BY PROGRAM, IN A SANDBOX (cutbox-rows.mjs): the forced cells as the released guide's own fill.sh prints them over the translation a113f8b2029599d8… (all of the seat's roots in one cut). By AI agents, Wed Nov 11 2026. No macro, syntax, notation, axiom, sorry.
-/
import Derived.Test.YtencbdcfcpohaaaChecked
import GoSem.Claim
import GoSem.ClaimJoined
import GoSem.ClaimMapViews
import Derived.JoinedTies
import Derived.KernelRfl
namespace Go.Proofs.Ytencbdcfcpohaaa
/- THE CELL 'sum', in the pinned program and in every row, IS THE sha256 OF THE DUMP (.gsa) THAT YtencbdcfcpohaaaProg.lean LOADS. Nothing in Lean hashes anything: it is a label: what it is worth is what the hold of that sum in a sandbox is worth. -/
noncomputable def Try.pinned : Pinned := { name := "ytencbdcfcpohaaa", sum := "a113f8b2029599d8ee311e8bd3e3bbbfdeaee9643aefda121f18a89fa81a995f", checked := Try.checked }
namespace Rows
def none {H : Type} : Left H := { results := [], args := [] }

/-- 'tiercelaw06.HeadExact': WHATEVER THE INPUT: true; the input reads as it did. -/
def headExactSpec : ChangeSpec := { name := "headExact", fn := fun _ => fun
  | [d1, d2, d3] => { results := [.lit (.bool true)], args := [d1, d2, d3] }
  | _ => none }
def headExactRow : OpenClaim := { program := "ytencbdcfcpohaaa", sum := "a113f8b2029599d8ee311e8bd3e3bbbfdeaee9643aefda121f18a89fa81a995f", func := "tierce/tiercelaw06.HeadExact", spec := "headExact", inPlace := ["internal/abi.NoEscape"], apart := false }
def HeadExactSaid : Prop := headExactRow.holds Try.pinned (OpenSpec.ofChange headExactSpec)

/-- ITS FALSE NEIGHBOUR: 'it returns false'. Refute it at one input. -/
def headExactWrong : ChangeSpec := { name := "headExact", fn := fun _ => fun
  | [d1, d2, d3] => { results := [.lit (.bool false)], args := [d1, d2, d3] }
  | _ => none }
def HeadExactWrongFalsely : Prop := headExactRow.holds Try.pinned (OpenSpec.ofChange headExactWrong)

/-- 'tiercelaw06.HeadTells': WHATEVER THE INPUT: true; the input reads as it did. -/
def headTellsSpec : ChangeSpec := { name := "headTells", fn := fun _ => fun
  | [d1, d2, d3, d4, d5] => { results := [.lit (.bool true)], args := [d1, d2, d3, d4, d5] }
  | _ => none }
def headTellsRow : OpenClaim := { program := "ytencbdcfcpohaaa", sum := "a113f8b2029599d8ee311e8bd3e3bbbfdeaee9643aefda121f18a89fa81a995f", func := "tierce/tiercelaw06.HeadTells", spec := "headTells", inPlace := ["internal/abi.NoEscape"], apart := false }
def HeadTellsSaid : Prop := headTellsRow.holds Try.pinned (OpenSpec.ofChange headTellsSpec)

/-- ITS FALSE NEIGHBOUR: 'it returns false'. Refute it at one input. -/
def headTellsWrong : ChangeSpec := { name := "headTells", fn := fun _ => fun
  | [d1, d2, d3, d4, d5] => { results := [.lit (.bool false)], args := [d1, d2, d3, d4, d5] }
  | _ => none }
def HeadTellsWrongFalsely : Prop := headTellsRow.holds Try.pinned (OpenSpec.ofChange headTellsWrong)

/-- 'tiercelaw06.HeadTurns': WHATEVER THE INPUT: true; the input reads as it did. -/
def headTurnsSpec : ChangeSpec := { name := "headTurns", fn := fun _ => fun
  | [d1, d2, d3, d4] => { results := [.lit (.bool true)], args := [d1, d2, d3, d4] }
  | _ => none }
def headTurnsRow : OpenClaim := { program := "ytencbdcfcpohaaa", sum := "a113f8b2029599d8ee311e8bd3e3bbbfdeaee9643aefda121f18a89fa81a995f", func := "tierce/tiercelaw06.HeadTurns", spec := "headTurns", inPlace := ["internal/abi.NoEscape"], apart := false }
def HeadTurnsSaid : Prop := headTurnsRow.holds Try.pinned (OpenSpec.ofChange headTurnsSpec)

/-- ITS FALSE NEIGHBOUR: 'it returns false'. Refute it at one input. -/
def headTurnsWrong : ChangeSpec := { name := "headTurns", fn := fun _ => fun
  | [d1, d2, d3, d4] => { results := [.lit (.bool false)], args := [d1, d2, d3, d4] }
  | _ => none }
def HeadTurnsWrongFalsely : Prop := headTurnsRow.holds Try.pinned (OpenSpec.ofChange headTurnsWrong)

/- THE SECOND FORM. 'bulk': how many values and letters a reading holds, each counted each time it is reached (what is shared counts as often as it is met; a slice's spare places count too). A statement '..UptoSaid' is the law's where the arguments, and the package variables that the reading takes, are together of bulk at most 1048576: NARROWER than '..Said'. Prove '..Said' where nothing that the law and all that it calls make is longer than what came in: it says more and counts as full. Else prove '..UptoSaid'. A law counts once. -/
mutual
def uptoBulk {H : Type} : DataW H → Nat
  | .lit (.string bytes) => bytes.length + 1
  | .lit _ => 1
  | .nil => 1
  | .ptr d => uptoBulk d + 1
  | .slice elems spare => uptoBulkAll elems + uptoBulkAll spare + 1
  | .agg parts => uptoBulkAll parts + 1
  | .iface _ d => uptoBulk d + 1
  | .map entries => uptoBulkEntries entries + 1
  | .held _ => 1
def uptoBulkAll {H : Type} : List (DataW H) → Nat
  | [] => 0
  | d :: r => uptoBulk d + uptoBulkAll r
def uptoBulkEntries {H : Type} : List (Lit × DataW H) → Nat
  | [] => 0
  | x :: r => uptoBulkEntry x + uptoBulkEntries r
def uptoBulkEntry {H : Type} : Lit × DataW H → Nat
  | (.string bytes, d) => bytes.length + uptoBulk d + 1
  | (_, d) => uptoBulk d + 1
 end
def uptoSmall : (H : Type) → List (DataW H) → Bool := fun _ ds => decide (uptoBulkAll ds ≤ 1048576)
def OpenSpec.upto (s : _root_.Go.ChangeSpec) : _root_.Go.OpenSpec := { _root_.Go.OpenSpec.ofChange s with cond := some uptoSmall }

/-- 'tiercelaw06.HeadExact', WHERE WHAT IT READS IS OF BULK AT MOST 1048576: true; the input reads as it did. -/
def headExactUptoRow : OpenClaim := { program := "ytencbdcfcpohaaa", sum := "a113f8b2029599d8ee311e8bd3e3bbbfdeaee9643aefda121f18a89fa81a995f", func := "tierce/tiercelaw06.HeadExact", spec := "headExact", inPlace := ["internal/abi.NoEscape"], apart := false, narrowed := true }
def HeadExactUptoSaid : Prop := headExactUptoRow.holds Try.pinned (OpenSpec.upto headExactSpec)

/-- 'tiercelaw06.HeadTells', WHERE WHAT IT READS IS OF BULK AT MOST 1048576: true; the input reads as it did. -/
def headTellsUptoRow : OpenClaim := { program := "ytencbdcfcpohaaa", sum := "a113f8b2029599d8ee311e8bd3e3bbbfdeaee9643aefda121f18a89fa81a995f", func := "tierce/tiercelaw06.HeadTells", spec := "headTells", inPlace := ["internal/abi.NoEscape"], apart := false, narrowed := true }
def HeadTellsUptoSaid : Prop := headTellsUptoRow.holds Try.pinned (OpenSpec.upto headTellsSpec)

/-- 'tiercelaw06.HeadTurns', WHERE WHAT IT READS IS OF BULK AT MOST 1048576: true; the input reads as it did. -/
def headTurnsUptoRow : OpenClaim := { program := "ytencbdcfcpohaaa", sum := "a113f8b2029599d8ee311e8bd3e3bbbfdeaee9643aefda121f18a89fa81a995f", func := "tierce/tiercelaw06.HeadTurns", spec := "headTurns", inPlace := ["internal/abi.NoEscape"], apart := false, narrowed := true }
def HeadTurnsUptoSaid : Prop := headTurnsUptoRow.holds Try.pinned (OpenSpec.upto headTurnsSpec)

end Rows
end Go.Proofs.Ytencbdcfcpohaaa
