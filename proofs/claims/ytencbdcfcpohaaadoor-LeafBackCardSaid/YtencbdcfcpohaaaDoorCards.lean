/-
  DERIVED. GIVEN WITH THE SEED: THE CARDS: each row of YtencbdcfcpohaaaDoorRows.lean that lists a variable, with what it lists TIED to the program's text (the seventh form; the later family's looks); each row that meets fmt, with fmt's text TOLD by the authors' own Lean function (tested against real Go, not proved from fmt's source: count such statements apart). THE CARD IS WHAT COUNTS. Prove the row's statement (the work); the ties are given (YtencbdcfcpohaaaDoorTie.lean); close each card by the builder's one call (the guide's Derived/Test/ToyasCard.lean, 'card_holds'). Laid BY PROGRAM, IN A SANDBOX (cutbox-door.mjs). By AI agents, Wed Nov 11 2026. No macro, syntax, notation, axiom, sorry.
-/
import Derived.Test.YtencbdcfcpohaaaDoorRows
import GoSem.ClaimSeven
namespace Go.Proofs.YtencbdcfcpohaaaDoor
namespace Rows

/-- THE TIED CARD OF 'tiercelaw01.OctetWrites'. -/
def octetWritesCard : Claim7 := { stood := { row := octetWritesRow, standIns := [], harness := (true, "4a1aa9923398de37432821451744fbadf28c87308e8b9ff97866d713f003890c"), looks := false }, kinds := [], alts := [], laidByText := true, laidKinds := [.data, .pinned], laidTests := true, laidLooks := .later }
def OctetWritesCardSaid : Prop := Claim7.holds Tryd.pinned (.plain (OpenSpec.ofChange octetWritesSpec)) octetWritesCard

/-- THE TIED CARD OF 'tiercelaw01.OctetReads'. -/
def octetReadsCard : Claim7 := { stood := { row := octetReadsRow, standIns := [], harness := (true, "4a1aa9923398de37432821451744fbadf28c87308e8b9ff97866d713f003890c"), looks := false }, kinds := [], alts := [], laidByText := true, laidKinds := [.data, .pinned], laidTests := true, laidLooks := .later }
def OctetReadsCardSaid : Prop := Claim7.holds Tryd.pinned (.plain (OpenSpec.ofChange octetReadsSpec)) octetReadsCard

/-- THE TIED CARD OF 'tiercelaw01.OctetBack'. -/
def octetBackCard : Claim7 := { stood := { row := octetBackRow, standIns := [], harness := (true, "4a1aa9923398de37432821451744fbadf28c87308e8b9ff97866d713f003890c"), looks := false }, kinds := [], alts := [], laidByText := true, laidKinds := [.data, .pinned], laidTests := true, laidLooks := .later }
def OctetBackCardSaid : Prop := Claim7.holds Tryd.pinned (.plain (OpenSpec.ofChange octetBackSpec)) octetBackCard

/-- THE TIED CARD OF 'tiercelaw01.OctetApart'. -/
def octetApartCard : Claim7 := { stood := { row := octetApartRow, standIns := [], harness := (true, "4a1aa9923398de37432821451744fbadf28c87308e8b9ff97866d713f003890c"), looks := false }, kinds := [], alts := [], laidByText := true, laidKinds := [.data, .pinned], laidTests := true, laidLooks := .later }
def OctetApartCardSaid : Prop := Claim7.holds Tryd.pinned (.plain (OpenSpec.ofChange octetApartSpec)) octetApartCard

/-- THE TIED CARD OF 'tiercelaw05.LeafExact'. -/
def leafExactCard : Claim7 := { stood := { row := leafExactRow, standIns := [], harness := (true, "4a1aa9923398de37432821451744fbadf28c87308e8b9ff97866d713f003890c"), looks := false }, kinds := [], alts := [], laidByText := true, laidKinds := [.data, .pinned], laidTests := true, laidLooks := .later }
def LeafExactCardSaid : Prop := Claim7.holds Tryd.pinned (.plain (OpenSpec.ofChange leafExactSpec)) leafExactCard

/-- THE TIED CARD OF 'tiercelaw05.LeafFinds'. -/
def leafFindsCard : Claim7 := { stood := { row := leafFindsRow, standIns := [], harness := (true, "4a1aa9923398de37432821451744fbadf28c87308e8b9ff97866d713f003890c"), looks := false }, kinds := [], alts := [], laidByText := true, laidKinds := [.data, .pinned], laidTests := true, laidLooks := .later }
def LeafFindsCardSaid : Prop := Claim7.holds Tryd.pinned (.plain (OpenSpec.ofChange leafFindsSpec)) leafFindsCard

/-- THE TIED CARD OF 'tiercelaw05.LeafBack'. -/
def leafBackCard : Claim7 := { stood := { row := leafBackRow, standIns := [], harness := (true, "4a1aa9923398de37432821451744fbadf28c87308e8b9ff97866d713f003890c"), looks := false }, kinds := [], alts := [], laidByText := true, laidKinds := [.data, .pinned], laidTests := true, laidLooks := .later }
def LeafBackCardSaid : Prop := Claim7.holds Tryd.pinned (.plain (OpenSpec.ofChange leafBackSpec)) leafBackCard

/-- THE SECOND FORM's CARD OF 'tiercelaw01.OctetWrites'. -/
def octetWritesUptoCard : Claim7 := { stood := { row := octetWritesUptoRow, standIns := [], harness := (true, "4a1aa9923398de37432821451744fbadf28c87308e8b9ff97866d713f003890c"), looks := false }, kinds := [], alts := [], laidByText := true, laidKinds := [.data, .pinned], laidTests := true, laidLooks := .later }
def OctetWritesUptoCardSaid : Prop := Claim7.holds Tryd.pinned (.plain (OpenSpec.upto octetWritesSpec)) octetWritesUptoCard

/-- THE SECOND FORM's CARD OF 'tiercelaw01.OctetReads'. -/
def octetReadsUptoCard : Claim7 := { stood := { row := octetReadsUptoRow, standIns := [], harness := (true, "4a1aa9923398de37432821451744fbadf28c87308e8b9ff97866d713f003890c"), looks := false }, kinds := [], alts := [], laidByText := true, laidKinds := [.data, .pinned], laidTests := true, laidLooks := .later }
def OctetReadsUptoCardSaid : Prop := Claim7.holds Tryd.pinned (.plain (OpenSpec.upto octetReadsSpec)) octetReadsUptoCard

/-- THE SECOND FORM's CARD OF 'tiercelaw01.OctetBack'. -/
def octetBackUptoCard : Claim7 := { stood := { row := octetBackUptoRow, standIns := [], harness := (true, "4a1aa9923398de37432821451744fbadf28c87308e8b9ff97866d713f003890c"), looks := false }, kinds := [], alts := [], laidByText := true, laidKinds := [.data, .pinned], laidTests := true, laidLooks := .later }
def OctetBackUptoCardSaid : Prop := Claim7.holds Tryd.pinned (.plain (OpenSpec.upto octetBackSpec)) octetBackUptoCard

/-- THE SECOND FORM's CARD OF 'tiercelaw01.OctetApart'. -/
def octetApartUptoCard : Claim7 := { stood := { row := octetApartUptoRow, standIns := [], harness := (true, "4a1aa9923398de37432821451744fbadf28c87308e8b9ff97866d713f003890c"), looks := false }, kinds := [], alts := [], laidByText := true, laidKinds := [.data, .pinned], laidTests := true, laidLooks := .later }
def OctetApartUptoCardSaid : Prop := Claim7.holds Tryd.pinned (.plain (OpenSpec.upto octetApartSpec)) octetApartUptoCard

/-- THE SECOND FORM's CARD OF 'tiercelaw05.LeafExact'. -/
def leafExactUptoCard : Claim7 := { stood := { row := leafExactUptoRow, standIns := [], harness := (true, "4a1aa9923398de37432821451744fbadf28c87308e8b9ff97866d713f003890c"), looks := false }, kinds := [], alts := [], laidByText := true, laidKinds := [.data, .pinned], laidTests := true, laidLooks := .later }
def LeafExactUptoCardSaid : Prop := Claim7.holds Tryd.pinned (.plain (OpenSpec.upto leafExactSpec)) leafExactUptoCard

/-- THE SECOND FORM's CARD OF 'tiercelaw05.LeafFinds'. -/
def leafFindsUptoCard : Claim7 := { stood := { row := leafFindsUptoRow, standIns := [], harness := (true, "4a1aa9923398de37432821451744fbadf28c87308e8b9ff97866d713f003890c"), looks := false }, kinds := [], alts := [], laidByText := true, laidKinds := [.data, .pinned], laidTests := true, laidLooks := .later }
def LeafFindsUptoCardSaid : Prop := Claim7.holds Tryd.pinned (.plain (OpenSpec.upto leafFindsSpec)) leafFindsUptoCard

/-- THE SECOND FORM's CARD OF 'tiercelaw05.LeafBack'. -/
def leafBackUptoCard : Claim7 := { stood := { row := leafBackUptoRow, standIns := [], harness := (true, "4a1aa9923398de37432821451744fbadf28c87308e8b9ff97866d713f003890c"), looks := false }, kinds := [], alts := [], laidByText := true, laidKinds := [.data, .pinned], laidTests := true, laidLooks := .later }
def LeafBackUptoCardSaid : Prop := Claim7.holds Tryd.pinned (.plain (OpenSpec.upto leafBackSpec)) leafBackUptoCard
end Rows
end Go.Proofs.YtencbdcfcpohaaaDoor
