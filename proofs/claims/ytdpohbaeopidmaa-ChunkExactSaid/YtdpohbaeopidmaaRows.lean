/-
  No cell of these rows narrows 'for every input' (looked for: loops, veiled, ifaces, maps, wideKeys, modest, calm, conditions, laid).
  DERIVED. THE GIVEN ROWS OF THIS SEAT. 9 by the template 'for every input the law returns true; each argument reads behind the call as it read before'; 0 by the template 'total and deterministic' (their statements: YtdpohbaeopidmaaTotals.lean).
  GIVEN WITH THE SEED: the statements are not yours to turn. If you find one false, say at which input.
  Laid BY PROGRAM, IN A SANDBOX (cutbox-rows.mjs): the forced cells as the released guide's own fill.sh prints them over the translation 0279cff6c376ddc2… (all of the seat's roots in one cut). By AI agents, Wed Nov 11 2026. No macro, syntax, notation, axiom, sorry.
-/
import Derived.Test.YtdpohbaeopidmaaChecked
import GoSem.Claim
import GoSem.ClaimJoined
import GoSem.ClaimMapViews
import Derived.JoinedTies
import Derived.KernelRfl
namespace Go.Proofs.Ytdpohbaeopidmaa
/- THE CELL 'sum', in the pinned program and in every row, IS THE sha256 OF THE DUMP (.gsa) THAT YtdpohbaeopidmaaProg.lean LOADS. Nothing in Lean hashes anything: it is a label: what it is worth is what the hold of that sum in a sandbox is worth. -/
noncomputable def Try.pinned : Pinned := { name := "ytdpohbaeopidmaa", sum := "0279cff6c376ddc2b4a2e435a403a91741949f28b0b275b5ebd8d1a5d968ff78", checked := Try.checked }
namespace Rows
def none {H : Type} : Left H := { results := [], args := [] }

/-- 'tiercelaw13.OwnersExact': WHATEVER THE INPUT: true; the input reads as it did. -/
def ownersExactSpec : ChangeSpec := { name := "ownersExact", fn := fun _ => fun
  | [d] => { results := [.lit (.bool true)], args := [d] }
  | _ => none }
def ownersExactRow : OpenClaim := { program := "ytdpohbaeopidmaa", sum := "0279cff6c376ddc2b4a2e435a403a91741949f28b0b275b5ebd8d1a5d968ff78", func := "tierce/tiercelaw13.OwnersExact", spec := "ownersExact", inPlace := ["slices.overlaps[tierce/api.Owner]"], unfollowed := true, recurses := true, apart := false }
def OwnersExactSaid : Prop := ownersExactRow.holds Try.pinned (OpenSpec.ofChange ownersExactSpec)

/-- ITS FALSE NEIGHBOUR: 'it returns false'. Refute it at one input. -/
def ownersExactWrong : ChangeSpec := { name := "ownersExact", fn := fun _ => fun
  | [d] => { results := [.lit (.bool false)], args := [d] }
  | _ => none }
def OwnersExactWrongFalsely : Prop := ownersExactRow.holds Try.pinned (OpenSpec.ofChange ownersExactWrong)

/-- 'tiercelaw13.OwnersAlone': WHATEVER THE INPUT: true; the input reads as it did. -/
def ownersAloneSpec : ChangeSpec := { name := "ownersAlone", fn := fun _ => fun
  | [d1, d2, d3] => { results := [.lit (.bool true)], args := [d1, d2, d3] }
  | _ => none }
def ownersAloneRow : OpenClaim := { program := "ytdpohbaeopidmaa", sum := "0279cff6c376ddc2b4a2e435a403a91741949f28b0b275b5ebd8d1a5d968ff78", func := "tierce/tiercelaw13.OwnersAlone", spec := "ownersAlone", inPlace := ["slices.overlaps[tierce/api.Owner]"], unfollowed := true, recurses := true, apart := false }
def OwnersAloneSaid : Prop := ownersAloneRow.holds Try.pinned (OpenSpec.ofChange ownersAloneSpec)

/-- ITS FALSE NEIGHBOUR: 'it returns false'. Refute it at one input. -/
def ownersAloneWrong : ChangeSpec := { name := "ownersAlone", fn := fun _ => fun
  | [d1, d2, d3] => { results := [.lit (.bool false)], args := [d1, d2, d3] }
  | _ => none }
def OwnersAloneWrongFalsely : Prop := ownersAloneRow.holds Try.pinned (OpenSpec.ofChange ownersAloneWrong)

/-- 'tiercelaw13.OwnersFree': WHATEVER THE INPUT: true; the input reads as it did. -/
def ownersFreeSpec : ChangeSpec := { name := "ownersFree", fn := fun _ => fun
  | [d1, d2] => { results := [.lit (.bool true)], args := [d1, d2] }
  | _ => none }
def ownersFreeRow : OpenClaim := { program := "ytdpohbaeopidmaa", sum := "0279cff6c376ddc2b4a2e435a403a91741949f28b0b275b5ebd8d1a5d968ff78", func := "tierce/tiercelaw13.OwnersFree", spec := "ownersFree", inPlace := ["slices.overlaps[tierce/api.Owner]"], unfollowed := true, recurses := true, apart := false }
def OwnersFreeSaid : Prop := ownersFreeRow.holds Try.pinned (OpenSpec.ofChange ownersFreeSpec)

/-- ITS FALSE NEIGHBOUR: 'it returns false'. Refute it at one input. -/
def ownersFreeWrong : ChangeSpec := { name := "ownersFree", fn := fun _ => fun
  | [d1, d2] => { results := [.lit (.bool false)], args := [d1, d2] }
  | _ => none }
def OwnersFreeWrongFalsely : Prop := ownersFreeRow.holds Try.pinned (OpenSpec.ofChange ownersFreeWrong)

/-- 'tiercelaw04.DiscSizes': WHATEVER THE INPUT: true; the input reads as it did. -/
def discSizesSpec : ChangeSpec := { name := "discSizes", fn := fun _ => fun
  | [d1, d2, d3, d4] => { results := [.lit (.bool true)], args := [d1, d2, d3, d4] }
  | _ => none }
def discSizesRow : OpenClaim := { program := "ytdpohbaeopidmaa", sum := "0279cff6c376ddc2b4a2e435a403a91741949f28b0b275b5ebd8d1a5d968ff78", func := "tierce/tiercelaw04.DiscSizes", spec := "discSizes", inPlace := ["internal/abi.NoEscape", "internal/bytealg.MakeNoZero"], unfollowed := true, recurses := true, apart := false }
def DiscSizesSaid : Prop := discSizesRow.holds Try.pinned (OpenSpec.ofChange discSizesSpec)

/-- ITS FALSE NEIGHBOUR: 'it returns false'. Refute it at one input. -/
def discSizesWrong : ChangeSpec := { name := "discSizes", fn := fun _ => fun
  | [d1, d2, d3, d4] => { results := [.lit (.bool false)], args := [d1, d2, d3, d4] }
  | _ => none }
def DiscSizesWrongFalsely : Prop := discSizesRow.holds Try.pinned (OpenSpec.ofChange discSizesWrong)

/-- 'tiercelaw04.DiscFlushed': WHATEVER THE INPUT: true; the input reads as it did. -/
def discFlushedSpec : ChangeSpec := { name := "discFlushed", fn := fun _ => fun
  | [d1, d2, d3] => { results := [.lit (.bool true)], args := [d1, d2, d3] }
  | _ => none }
def discFlushedRow : OpenClaim := { program := "ytdpohbaeopidmaa", sum := "0279cff6c376ddc2b4a2e435a403a91741949f28b0b275b5ebd8d1a5d968ff78", func := "tierce/tiercelaw04.DiscFlushed", spec := "discFlushed", inPlace := ["internal/abi.NoEscape", "internal/bytealg.MakeNoZero"], unfollowed := true, recurses := true, apart := false }
def DiscFlushedSaid : Prop := discFlushedRow.holds Try.pinned (OpenSpec.ofChange discFlushedSpec)

/-- ITS FALSE NEIGHBOUR: 'it returns false'. Refute it at one input. -/
def discFlushedWrong : ChangeSpec := { name := "discFlushed", fn := fun _ => fun
  | [d1, d2, d3] => { results := [.lit (.bool false)], args := [d1, d2, d3] }
  | _ => none }
def DiscFlushedWrongFalsely : Prop := discFlushedRow.holds Try.pinned (OpenSpec.ofChange discFlushedWrong)

/-- 'tiercelaw04.DiscExact': WHATEVER THE INPUT: true; the input reads as it did. -/
def discExactSpec : ChangeSpec := { name := "discExact", fn := fun _ => fun
  | [d1, d2] => { results := [.lit (.bool true)], args := [d1, d2] }
  | _ => none }
def discExactRow : OpenClaim := { program := "ytdpohbaeopidmaa", sum := "0279cff6c376ddc2b4a2e435a403a91741949f28b0b275b5ebd8d1a5d968ff78", func := "tierce/tiercelaw04.DiscExact", spec := "discExact", inPlace := ["internal/abi.NoEscape", "internal/bytealg.MakeNoZero"], unfollowed := true, recurses := true, apart := false }
def DiscExactSaid : Prop := discExactRow.holds Try.pinned (OpenSpec.ofChange discExactSpec)

/-- ITS FALSE NEIGHBOUR: 'it returns false'. Refute it at one input. -/
def discExactWrong : ChangeSpec := { name := "discExact", fn := fun _ => fun
  | [d1, d2] => { results := [.lit (.bool false)], args := [d1, d2] }
  | _ => none }
def DiscExactWrongFalsely : Prop := discExactRow.holds Try.pinned (OpenSpec.ofChange discExactWrong)

/-- 'tiercelaw18.ChunkDown': WHATEVER THE INPUT: true; the input reads as it did. -/
def chunkDownSpec : ChangeSpec := { name := "chunkDown", fn := fun _ => fun
  | [d1, d2] => { results := [.lit (.bool true)], args := [d1, d2] }
  | _ => none }
def chunkDownRow : OpenClaim := { program := "ytdpohbaeopidmaa", sum := "0279cff6c376ddc2b4a2e435a403a91741949f28b0b275b5ebd8d1a5d968ff78", func := "tierce/tiercelaw18.ChunkDown", spec := "chunkDown", inPlace := ["internal/abi.NoEscape", "internal/bytealg.MakeNoZero"], unfollowed := true, recurses := true, apart := false }
def ChunkDownSaid : Prop := chunkDownRow.holds Try.pinned (OpenSpec.ofChange chunkDownSpec)

/-- ITS FALSE NEIGHBOUR: 'it returns false'. Refute it at one input. -/
def chunkDownWrong : ChangeSpec := { name := "chunkDown", fn := fun _ => fun
  | [d1, d2] => { results := [.lit (.bool false)], args := [d1, d2] }
  | _ => none }
def ChunkDownWrongFalsely : Prop := chunkDownRow.holds Try.pinned (OpenSpec.ofChange chunkDownWrong)

/-- 'tiercelaw18.ChunkExact': WHATEVER THE INPUT: true; the input reads as it did. -/
def chunkExactSpec : ChangeSpec := { name := "chunkExact", fn := fun _ => fun
  | [d1, d2, d3, d4] => { results := [.lit (.bool true)], args := [d1, d2, d3, d4] }
  | _ => none }
def chunkExactRow : OpenClaim := { program := "ytdpohbaeopidmaa", sum := "0279cff6c376ddc2b4a2e435a403a91741949f28b0b275b5ebd8d1a5d968ff78", func := "tierce/tiercelaw18.ChunkExact", spec := "chunkExact", inPlace := ["internal/abi.NoEscape", "internal/bytealg.MakeNoZero"], unfollowed := true, recurses := true, apart := false }
def ChunkExactSaid : Prop := chunkExactRow.holds Try.pinned (OpenSpec.ofChange chunkExactSpec)

/-- ITS FALSE NEIGHBOUR: 'it returns false'. Refute it at one input. -/
def chunkExactWrong : ChangeSpec := { name := "chunkExact", fn := fun _ => fun
  | [d1, d2, d3, d4] => { results := [.lit (.bool false)], args := [d1, d2, d3, d4] }
  | _ => none }
def ChunkExactWrongFalsely : Prop := chunkExactRow.holds Try.pinned (OpenSpec.ofChange chunkExactWrong)

/-- 'tiercelaw18.ChunkApart': WHATEVER THE INPUT: true; the input reads as it did. -/
def chunkApartSpec : ChangeSpec := { name := "chunkApart", fn := fun _ => fun
  | [d1, d2, d3, d4, d5] => { results := [.lit (.bool true)], args := [d1, d2, d3, d4, d5] }
  | _ => none }
def chunkApartRow : OpenClaim := { program := "ytdpohbaeopidmaa", sum := "0279cff6c376ddc2b4a2e435a403a91741949f28b0b275b5ebd8d1a5d968ff78", func := "tierce/tiercelaw18.ChunkApart", spec := "chunkApart", inPlace := ["internal/abi.NoEscape", "internal/bytealg.MakeNoZero"], unfollowed := true, recurses := true, apart := false }
def ChunkApartSaid : Prop := chunkApartRow.holds Try.pinned (OpenSpec.ofChange chunkApartSpec)

/-- ITS FALSE NEIGHBOUR: 'it returns false'. Refute it at one input. -/
def chunkApartWrong : ChangeSpec := { name := "chunkApart", fn := fun _ => fun
  | [d1, d2, d3, d4, d5] => { results := [.lit (.bool false)], args := [d1, d2, d3, d4, d5] }
  | _ => none }
def ChunkApartWrongFalsely : Prop := chunkApartRow.holds Try.pinned (OpenSpec.ofChange chunkApartWrong)

/- THE SECOND FORM. 'bulk': how many values and letters a reading holds, each counted each time it is reached (what is shared counts as often as it is met; a slice's spare places count too). A statement '..UptoSaid' is the law's where the arguments, and the package variables that the reading takes, are together of bulk at most 1048576: NARROWER than '..Said'. Prove '..Said' where nothing that the law and all that it calls make is longer than what came in: it says more and counts as full. Else prove '..UptoSaid'. A law counts once. -/
mutual
def uptoBulk {H : Type} : DataW H → Nat
  | .lit (.string bytes) => bytes.length + 1
  | .lit _ => 1
  | .nil => 1
  | .ptr d => uptoBulk d + 1
  | .slice elems spare => uptoBulkAll elems + uptoBulkAll spare + 1
  | .agg parts => uptoBulkAll parts + 1
  | .iface _ d => uptoBulk d + 1
  | .map entries => uptoBulkEntries entries + 1
  | .held _ => 1
def uptoBulkAll {H : Type} : List (DataW H) → Nat
  | [] => 0
  | d :: r => uptoBulk d + uptoBulkAll r
def uptoBulkEntries {H : Type} : List (Lit × DataW H) → Nat
  | [] => 0
  | x :: r => uptoBulkEntry x + uptoBulkEntries r
def uptoBulkEntry {H : Type} : Lit × DataW H → Nat
  | (.string bytes, d) => bytes.length + uptoBulk d + 1
  | (_, d) => uptoBulk d + 1
 end
def uptoSmall : (H : Type) → List (DataW H) → Bool := fun _ ds => decide (uptoBulkAll ds ≤ 1048576)
def OpenSpec.upto (s : _root_.Go.ChangeSpec) : _root_.Go.OpenSpec := { _root_.Go.OpenSpec.ofChange s with cond := some uptoSmall }

/-- 'tiercelaw13.OwnersExact', WHERE WHAT IT READS IS OF BULK AT MOST 1048576: true; the input reads as it did. -/
def ownersExactUptoRow : OpenClaim := { program := "ytdpohbaeopidmaa", sum := "0279cff6c376ddc2b4a2e435a403a91741949f28b0b275b5ebd8d1a5d968ff78", func := "tierce/tiercelaw13.OwnersExact", spec := "ownersExact", inPlace := ["slices.overlaps[tierce/api.Owner]"], unfollowed := true, recurses := true, apart := false, narrowed := true }
def OwnersExactUptoSaid : Prop := ownersExactUptoRow.holds Try.pinned (OpenSpec.upto ownersExactSpec)

/-- 'tiercelaw13.OwnersAlone', WHERE WHAT IT READS IS OF BULK AT MOST 1048576: true; the input reads as it did. -/
def ownersAloneUptoRow : OpenClaim := { program := "ytdpohbaeopidmaa", sum := "0279cff6c376ddc2b4a2e435a403a91741949f28b0b275b5ebd8d1a5d968ff78", func := "tierce/tiercelaw13.OwnersAlone", spec := "ownersAlone", inPlace := ["slices.overlaps[tierce/api.Owner]"], unfollowed := true, recurses := true, apart := false, narrowed := true }
def OwnersAloneUptoSaid : Prop := ownersAloneUptoRow.holds Try.pinned (OpenSpec.upto ownersAloneSpec)

/-- 'tiercelaw13.OwnersFree', WHERE WHAT IT READS IS OF BULK AT MOST 1048576: true; the input reads as it did. -/
def ownersFreeUptoRow : OpenClaim := { program := "ytdpohbaeopidmaa", sum := "0279cff6c376ddc2b4a2e435a403a91741949f28b0b275b5ebd8d1a5d968ff78", func := "tierce/tiercelaw13.OwnersFree", spec := "ownersFree", inPlace := ["slices.overlaps[tierce/api.Owner]"], unfollowed := true, recurses := true, apart := false, narrowed := true }
def OwnersFreeUptoSaid : Prop := ownersFreeUptoRow.holds Try.pinned (OpenSpec.upto ownersFreeSpec)

/-- 'tiercelaw04.DiscSizes', WHERE WHAT IT READS IS OF BULK AT MOST 1048576: true; the input reads as it did. -/
def discSizesUptoRow : OpenClaim := { program := "ytdpohbaeopidmaa", sum := "0279cff6c376ddc2b4a2e435a403a91741949f28b0b275b5ebd8d1a5d968ff78", func := "tierce/tiercelaw04.DiscSizes", spec := "discSizes", inPlace := ["internal/abi.NoEscape", "internal/bytealg.MakeNoZero"], unfollowed := true, recurses := true, apart := false, narrowed := true }
def DiscSizesUptoSaid : Prop := discSizesUptoRow.holds Try.pinned (OpenSpec.upto discSizesSpec)

/-- 'tiercelaw04.DiscFlushed', WHERE WHAT IT READS IS OF BULK AT MOST 1048576: true; the input reads as it did. -/
def discFlushedUptoRow : OpenClaim := { program := "ytdpohbaeopidmaa", sum := "0279cff6c376ddc2b4a2e435a403a91741949f28b0b275b5ebd8d1a5d968ff78", func := "tierce/tiercelaw04.DiscFlushed", spec := "discFlushed", inPlace := ["internal/abi.NoEscape", "internal/bytealg.MakeNoZero"], unfollowed := true, recurses := true, apart := false, narrowed := true }
def DiscFlushedUptoSaid : Prop := discFlushedUptoRow.holds Try.pinned (OpenSpec.upto discFlushedSpec)

/-- 'tiercelaw04.DiscExact', WHERE WHAT IT READS IS OF BULK AT MOST 1048576: true; the input reads as it did. -/
def discExactUptoRow : OpenClaim := { program := "ytdpohbaeopidmaa", sum := "0279cff6c376ddc2b4a2e435a403a91741949f28b0b275b5ebd8d1a5d968ff78", func := "tierce/tiercelaw04.DiscExact", spec := "discExact", inPlace := ["internal/abi.NoEscape", "internal/bytealg.MakeNoZero"], unfollowed := true, recurses := true, apart := false, narrowed := true }
def DiscExactUptoSaid : Prop := discExactUptoRow.holds Try.pinned (OpenSpec.upto discExactSpec)

/-- 'tiercelaw18.ChunkDown', WHERE WHAT IT READS IS OF BULK AT MOST 1048576: true; the input reads as it did. -/
def chunkDownUptoRow : OpenClaim := { program := "ytdpohbaeopidmaa", sum := "0279cff6c376ddc2b4a2e435a403a91741949f28b0b275b5ebd8d1a5d968ff78", func := "tierce/tiercelaw18.ChunkDown", spec := "chunkDown", inPlace := ["internal/abi.NoEscape", "internal/bytealg.MakeNoZero"], unfollowed := true, recurses := true, apart := false, narrowed := true }
def ChunkDownUptoSaid : Prop := chunkDownUptoRow.holds Try.pinned (OpenSpec.upto chunkDownSpec)

/-- 'tiercelaw18.ChunkExact', WHERE WHAT IT READS IS OF BULK AT MOST 1048576: true; the input reads as it did. -/
def chunkExactUptoRow : OpenClaim := { program := "ytdpohbaeopidmaa", sum := "0279cff6c376ddc2b4a2e435a403a91741949f28b0b275b5ebd8d1a5d968ff78", func := "tierce/tiercelaw18.ChunkExact", spec := "chunkExact", inPlace := ["internal/abi.NoEscape", "internal/bytealg.MakeNoZero"], unfollowed := true, recurses := true, apart := false, narrowed := true }
def ChunkExactUptoSaid : Prop := chunkExactUptoRow.holds Try.pinned (OpenSpec.upto chunkExactSpec)

/-- 'tiercelaw18.ChunkApart', WHERE WHAT IT READS IS OF BULK AT MOST 1048576: true; the input reads as it did. -/
def chunkApartUptoRow : OpenClaim := { program := "ytdpohbaeopidmaa", sum := "0279cff6c376ddc2b4a2e435a403a91741949f28b0b275b5ebd8d1a5d968ff78", func := "tierce/tiercelaw18.ChunkApart", spec := "chunkApart", inPlace := ["internal/abi.NoEscape", "internal/bytealg.MakeNoZero"], unfollowed := true, recurses := true, apart := false, narrowed := true }
def ChunkApartUptoSaid : Prop := chunkApartUptoRow.holds Try.pinned (OpenSpec.upto chunkApartSpec)

end Rows
end Go.Proofs.Ytdpohbaeopidmaa
