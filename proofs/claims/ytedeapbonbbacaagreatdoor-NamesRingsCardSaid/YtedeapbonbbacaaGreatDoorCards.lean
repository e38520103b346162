/-
  DERIVED. GIVEN WITH THE SEED: THE CARDS: each row of YtedeapbonbbacaaGreatDoorRows.lean that lists a variable, with what it lists TIED to the program's text (the seventh form; the later family's looks); each row that meets fmt, with fmt's text TOLD by the authors' own Lean function (tested against real Go, not proved from fmt's source: count such statements apart). THE CARD IS WHAT COUNTS. Prove the row's statement (the work); the ties are given (YtedeapbonbbacaaGreatDoorTie.lean); close each card by the builder's one call (the guide's Derived/Test/ToyasCard.lean, 'card_holds'). Laid BY PROGRAM, IN A SANDBOX (cutbox-door.mjs). By AI agents, Wed Nov 11 2026. No macro, syntax, notation, axiom, sorry.
-/
import Derived.Test.YtedeapbonbbacaaGreatDoorRows
import GoSem.ClaimSeven
namespace Go.Proofs.YtedeapbonbbacaaGreatDoor
namespace Rows

/-- THE TIED CARD OF 'rubriclaw15.NamesRings'. -/
def namesRingsCard : Claim7 := { stood := { row := namesRingsRow, standIns := [], harness := (true, "3d6b18e2b7fc707495060d8ea0cd42fd6086a8c96c941b15b7f7da97f7e76566"), looks := false }, kinds := [], alts := [], laidByText := true, laidKinds := [.data, .pinned], laidTests := true, laidLooks := .later }
def NamesRingsCardSaid : Prop := Claim7.holds Tryz.pinned (.plain (OpenSpec.ofChange namesRingsSpec)) namesRingsCard

/-- THE TIED CARD OF 'rubriclaw15.NamesDoubles'. -/
def namesDoublesCard : Claim7 := { stood := { row := namesDoublesRow, standIns := [], harness := (true, "3d6b18e2b7fc707495060d8ea0cd42fd6086a8c96c941b15b7f7da97f7e76566"), looks := false }, kinds := [], alts := [], laidByText := true, laidKinds := [.data, .pinned], laidTests := true, laidLooks := .later }
def NamesDoublesCardSaid : Prop := Claim7.holds Tryz.pinned (.plain (OpenSpec.ofChange namesDoublesSpec)) namesDoublesCard

/-- THE SECOND FORM's CARD OF 'rubriclaw15.NamesRings'. -/
def namesRingsUptoCard : Claim7 := { stood := { row := namesRingsUptoRow, standIns := [], harness := (true, "3d6b18e2b7fc707495060d8ea0cd42fd6086a8c96c941b15b7f7da97f7e76566"), looks := false }, kinds := [], alts := [], laidByText := true, laidKinds := [.data, .pinned], laidTests := true, laidLooks := .later }
def NamesRingsUptoCardSaid : Prop := Claim7.holds Tryz.pinned (.plain (OpenSpec.upto namesRingsSpec)) namesRingsUptoCard

/-- THE SECOND FORM's CARD OF 'rubriclaw15.NamesDoubles'. -/
def namesDoublesUptoCard : Claim7 := { stood := { row := namesDoublesUptoRow, standIns := [], harness := (true, "3d6b18e2b7fc707495060d8ea0cd42fd6086a8c96c941b15b7f7da97f7e76566"), looks := false }, kinds := [], alts := [], laidByText := true, laidKinds := [.data, .pinned], laidTests := true, laidLooks := .later }
def NamesDoublesUptoCardSaid : Prop := Claim7.holds Tryz.pinned (.plain (OpenSpec.upto namesDoublesSpec)) namesDoublesUptoCard
end Rows
end Go.Proofs.YtedeapbonbbacaaGreatDoor
