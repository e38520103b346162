/-
  DERIVED. GIVEN WITH THE SEED: THE CARDS: each row of YtefjgpkpplkkgaaGreatDoorRows.lean that lists a variable, with what it lists TIED to the program's text (the seventh form; the later family's looks); each row that meets fmt, with fmt's text TOLD by the authors' own Lean function (tested against real Go, not proved from fmt's source: count such statements apart). THE CARD IS WHAT COUNTS. Prove the row's statement (the work); the ties are given (YtefjgpkpplkkgaaGreatDoorTie.lean); close each card by the builder's one call (the guide's Derived/Test/ToyasCard.lean, 'card_holds'). Laid BY PROGRAM, IN A SANDBOX (cutbox-door.mjs). By AI agents, Wed Nov 11 2026. No macro, syntax, notation, axiom, sorry.
-/
import Derived.Test.YtefjgpkpplkkgaaGreatDoorRows
import GoSem.ClaimSeven
namespace Go.Proofs.YtefjgpkpplkkgaaGreatDoor
namespace Rows

/-- THE TIED CARD OF 'rubriclaw08.ValueShows'. -/
def valueShowsCard : Claim7 := { stood := { row := valueShowsRow, standIns := [], harness := (true, "a25279a4cd099f6db8d90878f049288b110f8871c5cbf2c6f82fd6add8080568"), looks := false }, kinds := [], alts := [], laidByText := true, laidKinds := [.data, .pinned], laidTests := true, laidLooks := .later }
def ValueShowsCardSaid : Prop := Claim7.holds Tryz.pinned (.plain (OpenSpec.ofChange valueShowsSpec)) valueShowsCard

/-- THE TIED CARD OF 'rubriclaw11.ShowParts'. -/
def showPartsCard : Claim7 := { stood := { row := showPartsRow, standIns := [], harness := (true, "a25279a4cd099f6db8d90878f049288b110f8871c5cbf2c6f82fd6add8080568"), looks := false }, kinds := [], alts := [], laidByText := true, laidKinds := [.data, .pinned], laidTests := true, laidLooks := .later }
def ShowPartsCardSaid : Prop := Claim7.holds Tryz.pinned (.plain (OpenSpec.ofChange showPartsSpec)) showPartsCard

/-- THE TIED CARD OF 'rubriclaw11.ShowOne'. -/
def showOneCard : Claim7 := { stood := { row := showOneRow, standIns := [], harness := (true, "a25279a4cd099f6db8d90878f049288b110f8871c5cbf2c6f82fd6add8080568"), looks := false }, kinds := [], alts := [], laidByText := true, laidKinds := [.data, .pinned], laidTests := true, laidLooks := .later }
def ShowOneCardSaid : Prop := Claim7.holds Tryz.pinned (.plain (OpenSpec.ofChange showOneSpec)) showOneCard

/-- THE TIED CARD OF 'rubriclaw11.ShowTypes'. -/
def showTypesCard : Claim7 := { stood := { row := showTypesRow, standIns := [], harness := (true, "a25279a4cd099f6db8d90878f049288b110f8871c5cbf2c6f82fd6add8080568"), looks := false }, kinds := [], alts := [], laidByText := true, laidKinds := [.data, .pinned], laidTests := true, laidLooks := .later }
def ShowTypesCardSaid : Prop := Claim7.holds Tryz.pinned (.plain (OpenSpec.ofChange showTypesSpec)) showTypesCard

/-- THE TIED CARD OF 'rubriclaw11.ShowSchemas'. -/
def showSchemasCard : Claim7 := { stood := { row := showSchemasRow, standIns := [], harness := (true, "a25279a4cd099f6db8d90878f049288b110f8871c5cbf2c6f82fd6add8080568"), looks := false }, kinds := [], alts := [], laidByText := true, laidKinds := [.data, .pinned], laidTests := true, laidLooks := .later }
def ShowSchemasCardSaid : Prop := Claim7.holds Tryz.pinned (.plain (OpenSpec.ofChange showSchemasSpec)) showSchemasCard

/-- THE SECOND FORM's CARD OF 'rubriclaw08.ValueShows'. -/
def valueShowsUptoCard : Claim7 := { stood := { row := valueShowsUptoRow, standIns := [], harness := (true, "a25279a4cd099f6db8d90878f049288b110f8871c5cbf2c6f82fd6add8080568"), looks := false }, kinds := [], alts := [], laidByText := true, laidKinds := [.data, .pinned], laidTests := true, laidLooks := .later }
def ValueShowsUptoCardSaid : Prop := Claim7.holds Tryz.pinned (.plain (OpenSpec.upto valueShowsSpec)) valueShowsUptoCard

/-- THE SECOND FORM's CARD OF 'rubriclaw11.ShowParts'. -/
def showPartsUptoCard : Claim7 := { stood := { row := showPartsUptoRow, standIns := [], harness := (true, "a25279a4cd099f6db8d90878f049288b110f8871c5cbf2c6f82fd6add8080568"), looks := false }, kinds := [], alts := [], laidByText := true, laidKinds := [.data, .pinned], laidTests := true, laidLooks := .later }
def ShowPartsUptoCardSaid : Prop := Claim7.holds Tryz.pinned (.plain (OpenSpec.upto showPartsSpec)) showPartsUptoCard

/-- THE SECOND FORM's CARD OF 'rubriclaw11.ShowOne'. -/
def showOneUptoCard : Claim7 := { stood := { row := showOneUptoRow, standIns := [], harness := (true, "a25279a4cd099f6db8d90878f049288b110f8871c5cbf2c6f82fd6add8080568"), looks := false }, kinds := [], alts := [], laidByText := true, laidKinds := [.data, .pinned], laidTests := true, laidLooks := .later }
def ShowOneUptoCardSaid : Prop := Claim7.holds Tryz.pinned (.plain (OpenSpec.upto showOneSpec)) showOneUptoCard

/-- THE SECOND FORM's CARD OF 'rubriclaw11.ShowTypes'. -/
def showTypesUptoCard : Claim7 := { stood := { row := showTypesUptoRow, standIns := [], harness := (true, "a25279a4cd099f6db8d90878f049288b110f8871c5cbf2c6f82fd6add8080568"), looks := false }, kinds := [], alts := [], laidByText := true, laidKinds := [.data, .pinned], laidTests := true, laidLooks := .later }
def ShowTypesUptoCardSaid : Prop := Claim7.holds Tryz.pinned (.plain (OpenSpec.upto showTypesSpec)) showTypesUptoCard

/-- THE SECOND FORM's CARD OF 'rubriclaw11.ShowSchemas'. -/
def showSchemasUptoCard : Claim7 := { stood := { row := showSchemasUptoRow, standIns := [], harness := (true, "a25279a4cd099f6db8d90878f049288b110f8871c5cbf2c6f82fd6add8080568"), looks := false }, kinds := [], alts := [], laidByText := true, laidKinds := [.data, .pinned], laidTests := true, laidLooks := .later }
def ShowSchemasUptoCardSaid : Prop := Claim7.holds Tryz.pinned (.plain (OpenSpec.upto showSchemasSpec)) showSchemasUptoCard
end Rows
end Go.Proofs.YtefjgpkpplkkgaaGreatDoor
