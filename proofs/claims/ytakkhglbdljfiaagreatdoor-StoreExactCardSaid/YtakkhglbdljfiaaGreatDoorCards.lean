/-
  DERIVED. GIVEN WITH THE SEED: THE CARDS: each row of YtakkhglbdljfiaaGreatDoorRows.lean that lists a variable, with what it lists TIED to the program's text (the seventh form; the later family's looks); each row that meets fmt, with fmt's text TOLD by the authors' own Lean function (tested against real Go, not proved from fmt's source: count such statements apart). THE CARD IS WHAT COUNTS. Prove the row's statement (the work); the ties are given (YtakkhglbdljfiaaGreatDoorTie.lean); close each card by the builder's one call (the guide's Derived/Test/ToyasCard.lean, 'card_holds'). Laid BY PROGRAM, IN A SANDBOX (cutbox-door.mjs). By AI agents, Wed Nov 11 2026. No macro, syntax, notation, axiom, sorry.
-/
import Derived.Test.YtakkhglbdljfiaaGreatDoorRows
import GoSem.ClaimSeven
namespace Go.Proofs.YtakkhglbdljfiaaGreatDoor
namespace Rows

/-- THE TIED CARD OF 'tiercelaw07.StoreExact'. -/
def storeExactCard : Claim7 := { stood := { row := storeExactRow, standIns := [], harness := (true, "172ea2df98918013e40b2c9da1d2c7f363dd048a25f64502260d3ffd852b00a4"), looks := false }, kinds := [], alts := [], laidByText := true, laidKinds := [.data, .pinned], laidTests := true, laidLooks := .later }
def StoreExactCardSaid : Prop := Claim7.holds Tryz.pinned (.plain (OpenSpec.ofChange storeExactSpec)) storeExactCard

/-- THE TIED CARD OF 'tiercelaw07.StoreWhole'. -/
def storeWholeCard : Claim7 := { stood := { row := storeWholeRow, standIns := [], harness := (true, "172ea2df98918013e40b2c9da1d2c7f363dd048a25f64502260d3ffd852b00a4"), looks := false }, kinds := [], alts := [], laidByText := true, laidKinds := [.data, .pinned], laidTests := true, laidLooks := .later }
def StoreWholeCardSaid : Prop := Claim7.holds Tryz.pinned (.plain (OpenSpec.ofChange storeWholeSpec)) storeWholeCard

/-- THE TIED CARD OF 'tiercelaw07.StoreOpens'. -/
def storeOpensCard : Claim7 := { stood := { row := storeOpensRow, standIns := [], harness := (true, "172ea2df98918013e40b2c9da1d2c7f363dd048a25f64502260d3ffd852b00a4"), looks := false }, kinds := [], alts := [], laidByText := true, laidKinds := [.data, .pinned], laidTests := true, laidLooks := .later }
def StoreOpensCardSaid : Prop := Claim7.holds Tryz.pinned (.plain (OpenSpec.ofChange storeOpensSpec)) storeOpensCard

/-- THE TIED CARD OF 'tiercelaw07.StoreShadows'. -/
def storeShadowsCard : Claim7 := { stood := { row := storeShadowsRow, standIns := [], harness := (true, "172ea2df98918013e40b2c9da1d2c7f363dd048a25f64502260d3ffd852b00a4"), looks := false }, kinds := [], alts := [], laidByText := true, laidKinds := [.data, .pinned], laidTests := true, laidLooks := .later }
def StoreShadowsCardSaid : Prop := Claim7.holds Tryz.pinned (.plain (OpenSpec.ofChange storeShadowsSpec)) storeShadowsCard

/-- THE SECOND FORM's CARD OF 'tiercelaw07.StoreExact'. -/
def storeExactUptoCard : Claim7 := { stood := { row := storeExactUptoRow, standIns := [], harness := (true, "172ea2df98918013e40b2c9da1d2c7f363dd048a25f64502260d3ffd852b00a4"), looks := false }, kinds := [], alts := [], laidByText := true, laidKinds := [.data, .pinned], laidTests := true, laidLooks := .later }
def StoreExactUptoCardSaid : Prop := Claim7.holds Tryz.pinned (.plain (OpenSpec.upto storeExactSpec)) storeExactUptoCard

/-- THE SECOND FORM's CARD OF 'tiercelaw07.StoreWhole'. -/
def storeWholeUptoCard : Claim7 := { stood := { row := storeWholeUptoRow, standIns := [], harness := (true, "172ea2df98918013e40b2c9da1d2c7f363dd048a25f64502260d3ffd852b00a4"), looks := false }, kinds := [], alts := [], laidByText := true, laidKinds := [.data, .pinned], laidTests := true, laidLooks := .later }
def StoreWholeUptoCardSaid : Prop := Claim7.holds Tryz.pinned (.plain (OpenSpec.upto storeWholeSpec)) storeWholeUptoCard

/-- THE SECOND FORM's CARD OF 'tiercelaw07.StoreOpens'. -/
def storeOpensUptoCard : Claim7 := { stood := { row := storeOpensUptoRow, standIns := [], harness := (true, "172ea2df98918013e40b2c9da1d2c7f363dd048a25f64502260d3ffd852b00a4"), looks := false }, kinds := [], alts := [], laidByText := true, laidKinds := [.data, .pinned], laidTests := true, laidLooks := .later }
def StoreOpensUptoCardSaid : Prop := Claim7.holds Tryz.pinned (.plain (OpenSpec.upto storeOpensSpec)) storeOpensUptoCard

/-- THE SECOND FORM's CARD OF 'tiercelaw07.StoreShadows'. -/
def storeShadowsUptoCard : Claim7 := { stood := { row := storeShadowsUptoRow, standIns := [], harness := (true, "172ea2df98918013e40b2c9da1d2c7f363dd048a25f64502260d3ffd852b00a4"), looks := false }, kinds := [], alts := [], laidByText := true, laidKinds := [.data, .pinned], laidTests := true, laidLooks := .later }
def StoreShadowsUptoCardSaid : Prop := Claim7.holds Tryz.pinned (.plain (OpenSpec.upto storeShadowsSpec)) storeShadowsUptoCard
end Rows
end Go.Proofs.YtakkhglbdljfiaaGreatDoor
