/-
  DERIVED. GIVEN WITH THE SEED: THE CARDS: each row of YtgdlnfljfiageaaDoorRows.lean that lists a variable, with what it lists TIED to the program's text (the seventh form; the later family's looks); each row that meets fmt, with fmt's text TOLD by the authors' own Lean function (tested against real Go, not proved from fmt's source: count such statements apart). THE CARD IS WHAT COUNTS. Prove the row's statement (the work); the ties are given (YtgdlnfljfiageaaDoorTie.lean); close each card by the builder's one call (the guide's Derived/Test/ToyasCard.lean, 'card_holds'). Laid BY PROGRAM, IN A SANDBOX (cutbox-door.mjs). By AI agents, Wed Nov 11 2026. No macro, syntax, notation, axiom, sorry.
-/
import Derived.Test.YtgdlnfljfiageaaDoorRows
import GoSem.ClaimSeven
namespace Go.Proofs.YtgdlnfljfiageaaDoor
namespace Rows

/-- THE TIED CARD OF 'tiercelaw37.GridExact'. -/
def gridExactCard : Claim7 := { stood := { row := gridExactRow, standIns := [], harness := (true, "699db4863d57625b0de6f8c146bcc26174b7963612d04afa23cf63b827881643"), looks := false }, kinds := [], alts := [], laidByText := true, laidKinds := [.data, .pinned], laidTests := true, laidLooks := .later }
def GridExactCardSaid : Prop := Claim7.holds Tryd.pinned (.plain (OpenSpec.ofChange gridExactSpec)) gridExactCard

/-- THE TIED CARD OF 'tiercelaw37.GridCells'. -/
def gridCellsCard : Claim7 := { stood := { row := gridCellsRow, standIns := [], harness := (true, "699db4863d57625b0de6f8c146bcc26174b7963612d04afa23cf63b827881643"), looks := false }, kinds := [], alts := [], laidByText := true, laidKinds := [.data, .pinned], laidTests := true, laidLooks := .later }
def GridCellsCardSaid : Prop := Claim7.holds Tryd.pinned (.plain (OpenSpec.ofChange gridCellsSpec)) gridCellsCard

/-- THE TIED CARD OF 'tiercelaw37.GridBack'. -/
def gridBackCard : Claim7 := { stood := { row := gridBackRow, standIns := [], harness := (true, "699db4863d57625b0de6f8c146bcc26174b7963612d04afa23cf63b827881643"), looks := false }, kinds := [], alts := [], laidByText := true, laidKinds := [.data, .pinned], laidTests := true, laidLooks := .later }
def GridBackCardSaid : Prop := Claim7.holds Tryd.pinned (.plain (OpenSpec.ofChange gridBackSpec)) gridBackCard

/-- THE TIED CARD OF 'tiercelaw37.GridFits'. -/
def gridFitsCard : Claim7 := { stood := { row := gridFitsRow, standIns := [], harness := (true, "699db4863d57625b0de6f8c146bcc26174b7963612d04afa23cf63b827881643"), looks := false }, kinds := [], alts := [], laidByText := true, laidKinds := [.data, .pinned], laidTests := true, laidLooks := .later }
def GridFitsCardSaid : Prop := Claim7.holds Tryd.pinned (.plain (OpenSpec.ofChange gridFitsSpec)) gridFitsCard

/-- THE SECOND FORM's CARD OF 'tiercelaw37.GridExact'. -/
def gridExactUptoCard : Claim7 := { stood := { row := gridExactUptoRow, standIns := [], harness := (true, "699db4863d57625b0de6f8c146bcc26174b7963612d04afa23cf63b827881643"), looks := false }, kinds := [], alts := [], laidByText := true, laidKinds := [.data, .pinned], laidTests := true, laidLooks := .later }
def GridExactUptoCardSaid : Prop := Claim7.holds Tryd.pinned (.plain (OpenSpec.upto gridExactSpec)) gridExactUptoCard

/-- THE SECOND FORM's CARD OF 'tiercelaw37.GridCells'. -/
def gridCellsUptoCard : Claim7 := { stood := { row := gridCellsUptoRow, standIns := [], harness := (true, "699db4863d57625b0de6f8c146bcc26174b7963612d04afa23cf63b827881643"), looks := false }, kinds := [], alts := [], laidByText := true, laidKinds := [.data, .pinned], laidTests := true, laidLooks := .later }
def GridCellsUptoCardSaid : Prop := Claim7.holds Tryd.pinned (.plain (OpenSpec.upto gridCellsSpec)) gridCellsUptoCard

/-- THE SECOND FORM's CARD OF 'tiercelaw37.GridBack'. -/
def gridBackUptoCard : Claim7 := { stood := { row := gridBackUptoRow, standIns := [], harness := (true, "699db4863d57625b0de6f8c146bcc26174b7963612d04afa23cf63b827881643"), looks := false }, kinds := [], alts := [], laidByText := true, laidKinds := [.data, .pinned], laidTests := true, laidLooks := .later }
def GridBackUptoCardSaid : Prop := Claim7.holds Tryd.pinned (.plain (OpenSpec.upto gridBackSpec)) gridBackUptoCard

/-- THE SECOND FORM's CARD OF 'tiercelaw37.GridFits'. -/
def gridFitsUptoCard : Claim7 := { stood := { row := gridFitsUptoRow, standIns := [], harness := (true, "699db4863d57625b0de6f8c146bcc26174b7963612d04afa23cf63b827881643"), looks := false }, kinds := [], alts := [], laidByText := true, laidKinds := [.data, .pinned], laidTests := true, laidLooks := .later }
def GridFitsUptoCardSaid : Prop := Claim7.holds Tryd.pinned (.plain (OpenSpec.upto gridFitsSpec)) gridFitsUptoCard
end Rows
end Go.Proofs.YtgdlnfljfiageaaDoor
