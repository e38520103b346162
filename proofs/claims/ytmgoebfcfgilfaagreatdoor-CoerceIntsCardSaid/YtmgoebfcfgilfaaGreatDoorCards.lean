/-
  DERIVED. GIVEN WITH THE SEED: THE CARDS: each row of YtmgoebfcfgilfaaGreatDoorRows.lean that lists a variable, with what it lists TIED to the program's text (the seventh form; the later family's looks); each row that meets fmt, with fmt's text TOLD by the authors' own Lean function (tested against real Go, not proved from fmt's source: count such statements apart). THE CARD IS WHAT COUNTS. Prove the row's statement (the work); the ties are given (YtmgoebfcfgilfaaGreatDoorTie.lean); close each card by the builder's one call (the guide's Derived/Test/ToyasCard.lean, 'card_holds'). Laid BY PROGRAM, IN A SANDBOX (cutbox-door.mjs). By AI agents, Wed Nov 11 2026. No macro, syntax, notation, axiom, sorry.
-/
import Derived.Test.YtmgoebfcfgilfaaGreatDoorRows
import GoSem.ClaimSeven
namespace Go.Proofs.YtmgoebfcfgilfaaGreatDoor
namespace Rows

/-- THE TIED CARD OF 'rubriclaw11.ShowTypes'. -/
def showTypesCard : Claim7 := { stood := { row := showTypesRow, standIns := [], harness := (true, "bbc0726a156bf5d08ba576716e68c6bea06c62992ecafa94ee9b1dcb7dda9a5f"), looks := true }, kinds := [], alts := [], laidByText := true, laidKinds := [.data, .pinned], laidTests := true, laidLooks := .later }
def ShowTypesCardSaid : Prop := Claim7.holds Tryz.pinned (.plain (OpenSpec.ofChange showTypesSpec)) showTypesCard

/-- THE TIED CARD OF 'rubriclaw11.ShowSchemas'. -/
def showSchemasCard : Claim7 := { stood := { row := showSchemasRow, standIns := [], harness := (true, "bbc0726a156bf5d08ba576716e68c6bea06c62992ecafa94ee9b1dcb7dda9a5f"), looks := true }, kinds := [], alts := [], laidByText := true, laidKinds := [.data, .pinned], laidTests := true, laidLooks := .later }
def ShowSchemasCardSaid : Prop := Claim7.holds Tryz.pinned (.plain (OpenSpec.ofChange showSchemasSpec)) showSchemasCard

/-- THE TIED CARD OF 'rubriclaw13.CoerceSorts'. -/
def coerceSortsCard : Claim7 := { stood := { row := coerceSortsRow, standIns := [], harness := (true, "bbc0726a156bf5d08ba576716e68c6bea06c62992ecafa94ee9b1dcb7dda9a5f"), looks := true }, kinds := [], alts := [], laidByText := true, laidKinds := [.data, .data, .data, .data, .sentinel, .sentinel, .pinned], laidTests := true, laidLooks := .later }
def CoerceSortsCardSaid : Prop := Claim7.holds Tryz.pinned (.plain (OpenSpec.ofChange coerceSortsSpec)) coerceSortsCard

/-- THE TIED CARD OF 'rubriclaw13.CoerceInts'. -/
def coerceIntsCard : Claim7 := { stood := { row := coerceIntsRow, standIns := [], harness := (true, "bbc0726a156bf5d08ba576716e68c6bea06c62992ecafa94ee9b1dcb7dda9a5f"), looks := true }, kinds := [], alts := [], laidByText := true, laidKinds := [.data, .data, .data, .data, .sentinel, .sentinel, .pinned], laidTests := true, laidLooks := .later }
def CoerceIntsCardSaid : Prop := Claim7.holds Tryz.pinned (.plain (OpenSpec.ofChange coerceIntsSpec)) coerceIntsCard

/-- THE SECOND FORM's CARD OF 'rubriclaw11.ShowTypes'. -/
def showTypesUptoCard : Claim7 := { stood := { row := showTypesUptoRow, standIns := [], harness := (true, "bbc0726a156bf5d08ba576716e68c6bea06c62992ecafa94ee9b1dcb7dda9a5f"), looks := true }, kinds := [], alts := [], laidByText := true, laidKinds := [.data, .pinned], laidTests := true, laidLooks := .later }
def ShowTypesUptoCardSaid : Prop := Claim7.holds Tryz.pinned (.plain (OpenSpec.upto showTypesSpec)) showTypesUptoCard

/-- THE SECOND FORM's CARD OF 'rubriclaw11.ShowSchemas'. -/
def showSchemasUptoCard : Claim7 := { stood := { row := showSchemasUptoRow, standIns := [], harness := (true, "bbc0726a156bf5d08ba576716e68c6bea06c62992ecafa94ee9b1dcb7dda9a5f"), looks := true }, kinds := [], alts := [], laidByText := true, laidKinds := [.data, .pinned], laidTests := true, laidLooks := .later }
def ShowSchemasUptoCardSaid : Prop := Claim7.holds Tryz.pinned (.plain (OpenSpec.upto showSchemasSpec)) showSchemasUptoCard

/-- THE SECOND FORM's CARD OF 'rubriclaw13.CoerceSorts'. -/
def coerceSortsUptoCard : Claim7 := { stood := { row := coerceSortsUptoRow, standIns := [], harness := (true, "bbc0726a156bf5d08ba576716e68c6bea06c62992ecafa94ee9b1dcb7dda9a5f"), looks := true }, kinds := [], alts := [], laidByText := true, laidKinds := [.data, .data, .data, .data, .sentinel, .sentinel, .pinned], laidTests := true, laidLooks := .later }
def CoerceSortsUptoCardSaid : Prop := Claim7.holds Tryz.pinned (.plain (OpenSpec.upto coerceSortsSpec)) coerceSortsUptoCard

/-- THE SECOND FORM's CARD OF 'rubriclaw13.CoerceInts'. -/
def coerceIntsUptoCard : Claim7 := { stood := { row := coerceIntsUptoRow, standIns := [], harness := (true, "bbc0726a156bf5d08ba576716e68c6bea06c62992ecafa94ee9b1dcb7dda9a5f"), looks := true }, kinds := [], alts := [], laidByText := true, laidKinds := [.data, .data, .data, .data, .sentinel, .sentinel, .pinned], laidTests := true, laidLooks := .later }
def CoerceIntsUptoCardSaid : Prop := Claim7.holds Tryz.pinned (.plain (OpenSpec.upto coerceIntsSpec)) coerceIntsUptoCard
end Rows
end Go.Proofs.YtmgoebfcfgilfaaGreatDoor
