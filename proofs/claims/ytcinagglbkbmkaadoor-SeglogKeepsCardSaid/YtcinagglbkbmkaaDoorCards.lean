/-
  DERIVED. GIVEN WITH THE SEED: THE CARDS: each row of YtcinagglbkbmkaaDoorRows.lean that lists a variable, with what it lists TIED to the program's text (the seventh form; the later family's looks); each row that meets fmt, with fmt's text TOLD by the authors' own Lean function (tested against real Go, not proved from fmt's source: count such statements apart). THE CARD IS WHAT COUNTS. Prove the row's statement (the work); the ties are given (YtcinagglbkbmkaaDoorTie.lean); close each card by the builder's one call (the guide's Derived/Test/ToyasCard.lean, 'card_holds'). Laid BY PROGRAM, IN A SANDBOX (cutbox-door.mjs). By AI agents, Wed Nov 11 2026. No macro, syntax, notation, axiom, sorry.
-/
import Derived.Test.YtcinagglbkbmkaaDoorRows
import GoSem.ClaimSeven
namespace Go.Proofs.YtcinagglbkbmkaaDoor
namespace Rows

/-- THE TIED CARD OF 'rubriclaw04.SeglogKeeps'. -/
def seglogKeepsCard : Claim7 := { stood := { row := seglogKeepsRow, standIns := [], harness := (true, "a89ba8f5d246009ed8a9ab95cc176e4fcd9cff63c2c3d0bb92dc2bdcd7184abd"), looks := true }, kinds := [], alts := [], laidByText := true, laidKinds := [.data, .data, .data, .sentinel, .sentinel], laidTests := true, laidLooks := .later }
def SeglogKeepsCardSaid : Prop := Claim7.holds Tryd.pinned (.plain (OpenSpec.ofChange seglogKeepsSpec)) seglogKeepsCard

/-- THE SECOND FORM's CARD OF 'rubriclaw04.SeglogKeeps'. -/
def seglogKeepsUptoCard : Claim7 := { stood := { row := seglogKeepsUptoRow, standIns := [], harness := (true, "a89ba8f5d246009ed8a9ab95cc176e4fcd9cff63c2c3d0bb92dc2bdcd7184abd"), looks := true }, kinds := [], alts := [], laidByText := true, laidKinds := [.data, .data, .data, .sentinel, .sentinel], laidTests := true, laidLooks := .later }
def SeglogKeepsUptoCardSaid : Prop := Claim7.holds Tryd.pinned (.plain (OpenSpec.upto seglogKeepsSpec)) seglogKeepsUptoCard
end Rows
end Go.Proofs.YtcinagglbkbmkaaDoor
