/-
  DERIVED. GIVEN WITH THE SEED: THE CARDS: each row of YtmlekglfdiacpaaGreatDoorRows.lean that lists a variable, with what it lists TIED to the program's text (the seventh form; the later family's looks); each row that meets fmt, with fmt's text TOLD by the authors' own Lean function (tested against real Go, not proved from fmt's source: count such statements apart). THE CARD IS WHAT COUNTS. Prove the row's statement (the work); the ties are given (YtmlekglfdiacpaaGreatDoorTie.lean); close each card by the builder's one call (the guide's Derived/Test/ToyasCard.lean, 'card_holds'). Laid BY PROGRAM, IN A SANDBOX (cutbox-door.mjs). By AI agents, Wed Nov 11 2026. No macro, syntax, notation, axiom, sorry.
-/
import Derived.Test.YtmlekglfdiacpaaGreatDoorRows
import GoSem.ClaimSeven
namespace Go.Proofs.YtmlekglfdiacpaaGreatDoor
namespace Rows

/-- THE TIED CARD OF 'rubriclaw05.ManifestPlays'. -/
def manifestPlaysCard : Claim7 := { stood := { row := manifestPlaysRow, standIns := [], harness := (true, "4462a6071ceda5a73e05453a5e3ddb03bab12c9f04cf279dd8d0c2dc5059b972"), looks := true }, kinds := [], alts := [], laidByText := true, laidKinds := [.data, .data, .data, .data, .sentinel, .sentinel, .pinned], laidTests := true, laidLooks := .later }
def ManifestPlaysCardSaid : Prop := Claim7.holds Tryz.pinned (.plain (OpenSpec.ofChange manifestPlaysSpec)) manifestPlaysCard

/-- THE SECOND FORM's CARD OF 'rubriclaw05.ManifestPlays'. -/
def manifestPlaysUptoCard : Claim7 := { stood := { row := manifestPlaysUptoRow, standIns := [], harness := (true, "4462a6071ceda5a73e05453a5e3ddb03bab12c9f04cf279dd8d0c2dc5059b972"), looks := true }, kinds := [], alts := [], laidByText := true, laidKinds := [.data, .data, .data, .data, .sentinel, .sentinel, .pinned], laidTests := true, laidLooks := .later }
def ManifestPlaysUptoCardSaid : Prop := Claim7.holds Tryz.pinned (.plain (OpenSpec.upto manifestPlaysSpec)) manifestPlaysUptoCard
end Rows
end Go.Proofs.YtmlekglfdiacpaaGreatDoor
