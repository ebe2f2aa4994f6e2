/-
  NARROWER THAN 'FOR EVERY INPUT', by the rows' own cells (each row's printed sentence says how): OctetWrites: laid · OctetReads: laid · OctetBack: laid · OctetApart: laid · LeafExact: laid · LeafFinds: laid · LeafBack: laid.
  DERIVED. THE GIVEN ROWS OF THIS SEAT. 7 by the template 'for every input the law returns true; each argument reads behind the call as it read before'; 0 by the template 'total and deterministic' (their statements: YtencbdcfcpohaaaDoorTotals.lean).
  GIVEN WITH THE SEED: the statements are not yours to turn. If you find one false, say at which input.
  Laid BY PROGRAM, IN A SANDBOX (cutbox-rows.mjs): the forced cells as the released guide's own fill.sh prints them over the translation 0a48b5ac00315384… (all of the seat's roots in one cut). By AI agents, Wed Nov 11 2026. No macro, syntax, notation, axiom, sorry.
-/
import Derived.Test.YtencbdcfcpohaaaDoorChecked
import GoSem.PinnedTables
import GoSem.Claim
import GoSem.ClaimJoined
import GoSem.ClaimMapViews
import Derived.JoinedTies
import Derived.KernelRfl
namespace Go.Proofs.YtencbdcfcpohaaaDoor
/- THE CELL 'sum', in the pinned program and in every row, IS THE sha256 OF THE DUMP (.gsa) THAT YtencbdcfcpohaaaDoorProg.lean LOADS. Nothing in Lean hashes anything: it is a label: what it is worth is what the hold of that sum in a sandbox is worth. -/
noncomputable def Tryd.pinned : Pinned := { name := "ytencbdcfcpohaaadoor", sum := "0a48b5ac003153849bc134611c2ba8b28ef04fcad8a5fdadc6b12a8f86a309d1", checked := Tryd.checked }
namespace Rows
def none {H : Type} : Left H := { results := [], args := [] }

/- WHAT THE LISTED PACKAGE-LEVEL VARIABLES READ AS WHEN THE CALL BEGINS. Each datum BY PROGRAM (the guide's laid-datum.mjs) off the statement by which the dump's own 'gosem.cut.vars' lays the variable. In a bare row this is a premise. The card (YtencbdcfcpohaaaDoorCards.lean) ties it to the program's text. -/
def laid_unicode_utf8_acceptRanges {H : Type} : DataW H := .agg [.agg [.lit (.int .u8 128), .lit (.int .u8 191)], .agg [.lit (.int .u8 160), .lit (.int .u8 191)], .agg [.lit (.int .u8 128), .lit (.int .u8 159)], .agg [.lit (.int .u8 144), .lit (.int .u8 191)], .agg [.lit (.int .u8 128), .lit (.int .u8 143)], .agg [.lit (.int .u8 0), .lit (.int .u8 0)], .agg [.lit (.int .u8 0), .lit (.int .u8 0)], .agg [.lit (.int .u8 0), .lit (.int .u8 0)], .agg [.lit (.int .u8 0), .lit (.int .u8 0)], .agg [.lit (.int .u8 0), .lit (.int .u8 0)], .agg [.lit (.int .u8 0), .lit (.int .u8 0)], .agg [.lit (.int .u8 0), .lit (.int .u8 0)], .agg [.lit (.int .u8 0), .lit (.int .u8 0)], .agg [.lit (.int .u8 0), .lit (.int .u8 0)], .agg [.lit (.int .u8 0), .lit (.int .u8 0)], .agg [.lit (.int .u8 0), .lit (.int .u8 0)]]
/-- One of Go's own tables, pinned by name: the form's constant. -/
def laid_unicode_utf8_first : DataW Unit := Go.Pinned.utf8First

/-- 'tiercelaw01.OctetWrites': WHATEVER THE INPUT: true; the input reads as it did. -/
def octetWritesSpec : ChangeSpec := { name := "octetWrites", fn := fun _ => fun
  | [d] => { results := [.lit (.bool true)], args := [d] }
  | _ => none }
def octetWritesRow : OpenClaim := { program := "ytencbdcfcpohaaadoor", sum := "0a48b5ac003153849bc134611c2ba8b28ef04fcad8a5fdadc6b12a8f86a309d1", func := "tierce/tiercelaw01.OctetWrites", spec := "octetWrites", inPlace := ["internal/abi.NoEscape", "internal/bytealg.MakeNoZero", "internal/bytealg.IndexByteString", "internal/bytealg.IndexString"], named := ["unicode/utf8.first", "unicode/utf8.acceptRanges", "internal/bytealg.MaxLen"], apart := false, laid := [("unicode/utf8.acceptRanges", laid_unicode_utf8_acceptRanges), ("unicode/utf8.first", laid_unicode_utf8_first)] }
def OctetWritesSaid : Prop := octetWritesRow.holds Tryd.pinned (OpenSpec.ofChange octetWritesSpec)

/-- ITS FALSE NEIGHBOUR: 'it returns false'. Refute it at one input. -/
def octetWritesWrong : ChangeSpec := { name := "octetWrites", fn := fun _ => fun
  | [d] => { results := [.lit (.bool false)], args := [d] }
  | _ => none }
def OctetWritesWrongFalsely : Prop := octetWritesRow.holds Tryd.pinned (OpenSpec.ofChange octetWritesWrong)

/-- 'tiercelaw01.OctetReads': WHATEVER THE INPUT: true; the input reads as it did. -/
def octetReadsSpec : ChangeSpec := { name := "octetReads", fn := fun _ => fun
  | [d1, d2] => { results := [.lit (.bool true)], args := [d1, d2] }
  | _ => none }
def octetReadsRow : OpenClaim := { program := "ytencbdcfcpohaaadoor", sum := "0a48b5ac003153849bc134611c2ba8b28ef04fcad8a5fdadc6b12a8f86a309d1", func := "tierce/tiercelaw01.OctetReads", spec := "octetReads", inPlace := ["internal/abi.NoEscape", "internal/bytealg.MakeNoZero", "internal/bytealg.IndexByteString", "internal/bytealg.IndexString"], named := ["unicode/utf8.first", "unicode/utf8.acceptRanges", "internal/bytealg.MaxLen"], apart := false, laid := [("unicode/utf8.acceptRanges", laid_unicode_utf8_acceptRanges), ("unicode/utf8.first", laid_unicode_utf8_first)] }
def OctetReadsSaid : Prop := octetReadsRow.holds Tryd.pinned (OpenSpec.ofChange octetReadsSpec)

/-- ITS FALSE NEIGHBOUR: 'it returns false'. Refute it at one input. -/
def octetReadsWrong : ChangeSpec := { name := "octetReads", fn := fun _ => fun
  | [d1, d2] => { results := [.lit (.bool false)], args := [d1, d2] }
  | _ => none }
def OctetReadsWrongFalsely : Prop := octetReadsRow.holds Tryd.pinned (OpenSpec.ofChange octetReadsWrong)

/-- 'tiercelaw01.OctetBack': WHATEVER THE INPUT: true; the input reads as it did. -/
def octetBackSpec : ChangeSpec := { name := "octetBack", fn := fun _ => fun
  | [d1, d2, d3] => { results := [.lit (.bool true)], args := [d1, d2, d3] }
  | _ => none }
def octetBackRow : OpenClaim := { program := "ytencbdcfcpohaaadoor", sum := "0a48b5ac003153849bc134611c2ba8b28ef04fcad8a5fdadc6b12a8f86a309d1", func := "tierce/tiercelaw01.OctetBack", spec := "octetBack", inPlace := ["internal/abi.NoEscape", "internal/bytealg.MakeNoZero", "internal/bytealg.IndexByteString", "internal/bytealg.IndexString"], named := ["unicode/utf8.first", "unicode/utf8.acceptRanges", "internal/bytealg.MaxLen"], apart := false, laid := [("unicode/utf8.acceptRanges", laid_unicode_utf8_acceptRanges), ("unicode/utf8.first", laid_unicode_utf8_first)] }
def OctetBackSaid : Prop := octetBackRow.holds Tryd.pinned (OpenSpec.ofChange octetBackSpec)

/-- ITS FALSE NEIGHBOUR: 'it returns false'. Refute it at one input. -/
def octetBackWrong : ChangeSpec := { name := "octetBack", fn := fun _ => fun
  | [d1, d2, d3] => { results := [.lit (.bool false)], args := [d1, d2, d3] }
  | _ => none }
def OctetBackWrongFalsely : Prop := octetBackRow.holds Tryd.pinned (OpenSpec.ofChange octetBackWrong)

/-- 'tiercelaw01.OctetApart': WHATEVER THE INPUT: true; the input reads as it did. -/
def octetApartSpec : ChangeSpec := { name := "octetApart", fn := fun _ => fun
  | [d1, d2, d3] => { results := [.lit (.bool true)], args := [d1, d2, d3] }
  | _ => none }
def octetApartRow : OpenClaim := { program := "ytencbdcfcpohaaadoor", sum := "0a48b5ac003153849bc134611c2ba8b28ef04fcad8a5fdadc6b12a8f86a309d1", func := "tierce/tiercelaw01.OctetApart", spec := "octetApart", inPlace := ["internal/abi.NoEscape", "internal/bytealg.MakeNoZero", "internal/bytealg.IndexByteString", "internal/bytealg.IndexString"], named := ["unicode/utf8.first", "unicode/utf8.acceptRanges", "internal/bytealg.MaxLen"], apart := false, laid := [("unicode/utf8.acceptRanges", laid_unicode_utf8_acceptRanges), ("unicode/utf8.first", laid_unicode_utf8_first)] }
def OctetApartSaid : Prop := octetApartRow.holds Tryd.pinned (OpenSpec.ofChange octetApartSpec)

/-- ITS FALSE NEIGHBOUR: 'it returns false'. Refute it at one input. -/
def octetApartWrong : ChangeSpec := { name := "octetApart", fn := fun _ => fun
  | [d1, d2, d3] => { results := [.lit (.bool false)], args := [d1, d2, d3] }
  | _ => none }
def OctetApartWrongFalsely : Prop := octetApartRow.holds Tryd.pinned (OpenSpec.ofChange octetApartWrong)

/-- 'tiercelaw05.LeafExact': WHATEVER THE INPUT: true; the input reads as it did. -/
def leafExactSpec : ChangeSpec := { name := "leafExact", fn := fun _ => fun
  | [d1, d2] => { results := [.lit (.bool true)], args := [d1, d2] }
  | _ => none }
def leafExactRow : OpenClaim := { program := "ytencbdcfcpohaaadoor", sum := "0a48b5ac003153849bc134611c2ba8b28ef04fcad8a5fdadc6b12a8f86a309d1", func := "tierce/tiercelaw05.LeafExact", spec := "leafExact", inPlace := ["internal/abi.NoEscape", "internal/bytealg.MakeNoZero", "internal/bytealg.IndexByteString", "internal/bytealg.IndexString"], unfollowed := true, recurses := true, named := ["unicode/utf8.first", "unicode/utf8.acceptRanges", "internal/bytealg.MaxLen"], apart := false, laid := [("unicode/utf8.acceptRanges", laid_unicode_utf8_acceptRanges), ("unicode/utf8.first", laid_unicode_utf8_first)] }
def LeafExactSaid : Prop := leafExactRow.holds Tryd.pinned (OpenSpec.ofChange leafExactSpec)

/-- ITS FALSE NEIGHBOUR: 'it returns false'. Refute it at one input. -/
def leafExactWrong : ChangeSpec := { name := "leafExact", fn := fun _ => fun
  | [d1, d2] => { results := [.lit (.bool false)], args := [d1, d2] }
  | _ => none }
def LeafExactWrongFalsely : Prop := leafExactRow.holds Tryd.pinned (OpenSpec.ofChange leafExactWrong)

/-- 'tiercelaw05.LeafFinds': WHATEVER THE INPUT: true; the input reads as it did. -/
def leafFindsSpec : ChangeSpec := { name := "leafFinds", fn := fun _ => fun
  | [d1, d2] => { results := [.lit (.bool true)], args := [d1, d2] }
  | _ => none }
def leafFindsRow : OpenClaim := { program := "ytencbdcfcpohaaadoor", sum := "0a48b5ac003153849bc134611c2ba8b28ef04fcad8a5fdadc6b12a8f86a309d1", func := "tierce/tiercelaw05.LeafFinds", spec := "leafFinds", inPlace := ["internal/abi.NoEscape", "internal/bytealg.MakeNoZero", "internal/bytealg.IndexByteString", "internal/bytealg.IndexString"], unfollowed := true, recurses := true, named := ["unicode/utf8.first", "unicode/utf8.acceptRanges", "internal/bytealg.MaxLen"], apart := false, laid := [("unicode/utf8.acceptRanges", laid_unicode_utf8_acceptRanges), ("unicode/utf8.first", laid_unicode_utf8_first)] }
def LeafFindsSaid : Prop := leafFindsRow.holds Tryd.pinned (OpenSpec.ofChange leafFindsSpec)

/-- ITS FALSE NEIGHBOUR: 'it returns false'. Refute it at one input. -/
def leafFindsWrong : ChangeSpec := { name := "leafFinds", fn := fun _ => fun
  | [d1, d2] => { results := [.lit (.bool false)], args := [d1, d2] }
  | _ => none }
def LeafFindsWrongFalsely : Prop := leafFindsRow.holds Tryd.pinned (OpenSpec.ofChange leafFindsWrong)

/-- 'tiercelaw05.LeafBack': WHATEVER THE INPUT: true; the input reads as it did. -/
def leafBackSpec : ChangeSpec := { name := "leafBack", fn := fun _ => fun
  | [d1, d2, d3, d4] => { results := [.lit (.bool true)], args := [d1, d2, d3, d4] }
  | _ => none }
def leafBackRow : OpenClaim := { program := "ytencbdcfcpohaaadoor", sum := "0a48b5ac003153849bc134611c2ba8b28ef04fcad8a5fdadc6b12a8f86a309d1", func := "tierce/tiercelaw05.LeafBack", spec := "leafBack", inPlace := ["internal/abi.NoEscape", "internal/bytealg.MakeNoZero", "internal/bytealg.IndexByteString", "internal/bytealg.IndexString"], unfollowed := true, recurses := true, named := ["unicode/utf8.first", "unicode/utf8.acceptRanges", "internal/bytealg.MaxLen"], apart := false, laid := [("unicode/utf8.acceptRanges", laid_unicode_utf8_acceptRanges), ("unicode/utf8.first", laid_unicode_utf8_first)] }
def LeafBackSaid : Prop := leafBackRow.holds Tryd.pinned (OpenSpec.ofChange leafBackSpec)

/-- ITS FALSE NEIGHBOUR: 'it returns false'. Refute it at one input. -/
def leafBackWrong : ChangeSpec := { name := "leafBack", fn := fun _ => fun
  | [d1, d2, d3, d4] => { results := [.lit (.bool false)], args := [d1, d2, d3, d4] }
  | _ => none }
def LeafBackWrongFalsely : Prop := leafBackRow.holds Tryd.pinned (OpenSpec.ofChange leafBackWrong)

/- THE SECOND FORM. 'bulk': how many values and letters a reading holds, each counted each time it is reached (what is shared counts as often as it is met; a slice's spare places count too). A statement '..UptoSaid' is the law's where the arguments, and the package variables that the reading takes, are together of bulk at most 1048576: NARROWER than '..Said'. Prove '..Said' where nothing that the law and all that it calls make is longer than what came in: it says more and counts as full. Else prove '..UptoSaid'. A law counts once. -/
mutual
def uptoBulk {H : Type} : DataW H → Nat
  | .lit (.string bytes) => bytes.length + 1
  | .lit _ => 1
  | .nil => 1
  | .ptr d => uptoBulk d + 1
  | .slice elems spare => uptoBulkAll elems + uptoBulkAll spare + 1
  | .agg parts => uptoBulkAll parts + 1
  | .iface _ d => uptoBulk d + 1
  | .map entries => uptoBulkEntries entries + 1
  | .held _ => 1
def uptoBulkAll {H : Type} : List (DataW H) → Nat
  | [] => 0
  | d :: r => uptoBulk d + uptoBulkAll r
def uptoBulkEntries {H : Type} : List (Lit × DataW H) → Nat
  | [] => 0
  | x :: r => uptoBulkEntry x + uptoBulkEntries r
def uptoBulkEntry {H : Type} : Lit × DataW H → Nat
  | (.string bytes, d) => bytes.length + uptoBulk d + 1
  | (_, d) => uptoBulk d + 1
 end
def uptoSmall : (H : Type) → List (DataW H) → Bool := fun _ ds => decide (uptoBulkAll ds ≤ 1048576)
def OpenSpec.upto (s : _root_.Go.ChangeSpec) : _root_.Go.OpenSpec := { _root_.Go.OpenSpec.ofChange s with cond := some uptoSmall }

/-- 'tiercelaw01.OctetWrites', WHERE WHAT IT READS IS OF BULK AT MOST 1048576: true; the input reads as it did. -/
def octetWritesUptoRow : OpenClaim := { program := "ytencbdcfcpohaaadoor", sum := "0a48b5ac003153849bc134611c2ba8b28ef04fcad8a5fdadc6b12a8f86a309d1", func := "tierce/tiercelaw01.OctetWrites", spec := "octetWrites", inPlace := ["internal/abi.NoEscape", "internal/bytealg.MakeNoZero", "internal/bytealg.IndexByteString", "internal/bytealg.IndexString"], named := ["unicode/utf8.first", "unicode/utf8.acceptRanges", "internal/bytealg.MaxLen"], apart := false, laid := [("unicode/utf8.acceptRanges", laid_unicode_utf8_acceptRanges), ("unicode/utf8.first", laid_unicode_utf8_first)], narrowed := true }
def OctetWritesUptoSaid : Prop := octetWritesUptoRow.holds Tryd.pinned (OpenSpec.upto octetWritesSpec)

/-- 'tiercelaw01.OctetReads', WHERE WHAT IT READS IS OF BULK AT MOST 1048576: true; the input reads as it did. -/
def octetReadsUptoRow : OpenClaim := { program := "ytencbdcfcpohaaadoor", sum := "0a48b5ac003153849bc134611c2ba8b28ef04fcad8a5fdadc6b12a8f86a309d1", func := "tierce/tiercelaw01.OctetReads", spec := "octetReads", inPlace := ["internal/abi.NoEscape", "internal/bytealg.MakeNoZero", "internal/bytealg.IndexByteString", "internal/bytealg.IndexString"], named := ["unicode/utf8.first", "unicode/utf8.acceptRanges", "internal/bytealg.MaxLen"], apart := false, laid := [("unicode/utf8.acceptRanges", laid_unicode_utf8_acceptRanges), ("unicode/utf8.first", laid_unicode_utf8_first)], narrowed := true }
def OctetReadsUptoSaid : Prop := octetReadsUptoRow.holds Tryd.pinned (OpenSpec.upto octetReadsSpec)

/-- 'tiercelaw01.OctetBack', WHERE WHAT IT READS IS OF BULK AT MOST 1048576: true; the input reads as it did. -/
def octetBackUptoRow : OpenClaim := { program := "ytencbdcfcpohaaadoor", sum := "0a48b5ac003153849bc134611c2ba8b28ef04fcad8a5fdadc6b12a8f86a309d1", func := "tierce/tiercelaw01.OctetBack", spec := "octetBack", inPlace := ["internal/abi.NoEscape", "internal/bytealg.MakeNoZero", "internal/bytealg.IndexByteString", "internal/bytealg.IndexString"], named := ["unicode/utf8.first", "unicode/utf8.acceptRanges", "internal/bytealg.MaxLen"], apart := false, laid := [("unicode/utf8.acceptRanges", laid_unicode_utf8_acceptRanges), ("unicode/utf8.first", laid_unicode_utf8_first)], narrowed := true }
def OctetBackUptoSaid : Prop := octetBackUptoRow.holds Tryd.pinned (OpenSpec.upto octetBackSpec)

/-- 'tiercelaw01.OctetApart', WHERE WHAT IT READS IS OF BULK AT MOST 1048576: true; the input reads as it did. -/
def octetApartUptoRow : OpenClaim := { program := "ytencbdcfcpohaaadoor", sum := "0a48b5ac003153849bc134611c2ba8b28ef04fcad8a5fdadc6b12a8f86a309d1", func := "tierce/tiercelaw01.OctetApart", spec := "octetApart", inPlace := ["internal/abi.NoEscape", "internal/bytealg.MakeNoZero", "internal/bytealg.IndexByteString", "internal/bytealg.IndexString"], named := ["unicode/utf8.first", "unicode/utf8.acceptRanges", "internal/bytealg.MaxLen"], apart := false, laid := [("unicode/utf8.acceptRanges", laid_unicode_utf8_acceptRanges), ("unicode/utf8.first", laid_unicode_utf8_first)], narrowed := true }
def OctetApartUptoSaid : Prop := octetApartUptoRow.holds Tryd.pinned (OpenSpec.upto octetApartSpec)

/-- 'tiercelaw05.LeafExact', WHERE WHAT IT READS IS OF BULK AT MOST 1048576: true; the input reads as it did. -/
def leafExactUptoRow : OpenClaim := { program := "ytencbdcfcpohaaadoor", sum := "0a48b5ac003153849bc134611c2ba8b28ef04fcad8a5fdadc6b12a8f86a309d1", func := "tierce/tiercelaw05.LeafExact", spec := "leafExact", inPlace := ["internal/abi.NoEscape", "internal/bytealg.MakeNoZero", "internal/bytealg.IndexByteString", "internal/bytealg.IndexString"], unfollowed := true, recurses := true, named := ["unicode/utf8.first", "unicode/utf8.acceptRanges", "internal/bytealg.MaxLen"], apart := false, laid := [("unicode/utf8.acceptRanges", laid_unicode_utf8_acceptRanges), ("unicode/utf8.first", laid_unicode_utf8_first)], narrowed := true }
def LeafExactUptoSaid : Prop := leafExactUptoRow.holds Tryd.pinned (OpenSpec.upto leafExactSpec)

/-- 'tiercelaw05.LeafFinds', WHERE WHAT IT READS IS OF BULK AT MOST 1048576: true; the input reads as it did. -/
def leafFindsUptoRow : OpenClaim := { program := "ytencbdcfcpohaaadoor", sum := "0a48b5ac003153849bc134611c2ba8b28ef04fcad8a5fdadc6b12a8f86a309d1", func := "tierce/tiercelaw05.LeafFinds", spec := "leafFinds", inPlace := ["internal/abi.NoEscape", "internal/bytealg.MakeNoZero", "internal/bytealg.IndexByteString", "internal/bytealg.IndexString"], unfollowed := true, recurses := true, named := ["unicode/utf8.first", "unicode/utf8.acceptRanges", "internal/bytealg.MaxLen"], apart := false, laid := [("unicode/utf8.acceptRanges", laid_unicode_utf8_acceptRanges), ("unicode/utf8.first", laid_unicode_utf8_first)], narrowed := true }
def LeafFindsUptoSaid : Prop := leafFindsUptoRow.holds Tryd.pinned (OpenSpec.upto leafFindsSpec)

/-- 'tiercelaw05.LeafBack', WHERE WHAT IT READS IS OF BULK AT MOST 1048576: true; the input reads as it did. -/
def leafBackUptoRow : OpenClaim := { program := "ytencbdcfcpohaaadoor", sum := "0a48b5ac003153849bc134611c2ba8b28ef04fcad8a5fdadc6b12a8f86a309d1", func := "tierce/tiercelaw05.LeafBack", spec := "leafBack", inPlace := ["internal/abi.NoEscape", "internal/bytealg.MakeNoZero", "internal/bytealg.IndexByteString", "internal/bytealg.IndexString"], unfollowed := true, recurses := true, named := ["unicode/utf8.first", "unicode/utf8.acceptRanges", "internal/bytealg.MaxLen"], apart := false, laid := [("unicode/utf8.acceptRanges", laid_unicode_utf8_acceptRanges), ("unicode/utf8.first", laid_unicode_utf8_first)], narrowed := true }
def LeafBackUptoSaid : Prop := leafBackUptoRow.holds Tryd.pinned (OpenSpec.upto leafBackSpec)

end Rows
end Go.Proofs.YtencbdcfcpohaaaDoor
