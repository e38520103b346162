/-
  DERIVED. GIVEN WITH THE SEED: THE CARDS: each row of YtcimobbppmpmgaaDoorRows.lean that lists a variable, with what it lists TIED to the program's text (the seventh form; the later family's looks); each row that meets fmt, with fmt's text TOLD by the authors' own Lean function (tested against real Go, not proved from fmt's source: count such statements apart). THE CARD IS WHAT COUNTS. Prove the row's statement (the work); the ties are given (YtcimobbppmpmgaaDoorTie.lean); close each card by the builder's one call (the guide's Derived/Test/ToyasCard.lean, 'card_holds'). Laid BY PROGRAM, IN A SANDBOX (cutbox-door.mjs). By AI agents, Wed Nov 11 2026. No macro, syntax, notation, axiom, sorry.
-/
import Derived.Test.YtcimobbppmpmgaaDoorRows
import GoSem.ClaimSeven
namespace Go.Proofs.YtcimobbppmpmgaaDoor
namespace Rows

/-- THE TIED CARD OF 'rubriclaw04.SeglogNames'. -/
def seglogNamesCard : Claim7 := { stood := { row := seglogNamesRow, standIns := [], harness := (true, "1dbf67aded44729c1b6721a1e21b3fb14da5ed7b9526d84dd2444d208eace2e6"), looks := true }, kinds := [], alts := [], laidByText := true, laidKinds := [.data, .data, .data, .sentinel, .sentinel], laidTests := true, laidLooks := .later }
def SeglogNamesCardSaid : Prop := Claim7.holds Tryd.pinned (.plain (OpenSpec.ofChange seglogNamesSpec)) seglogNamesCard

/-- THE TIED CARD OF 'rubriclaw04.SeglogRows'. -/
def seglogRowsCard : Claim7 := { stood := { row := seglogRowsRow, standIns := [], harness := (true, "1dbf67aded44729c1b6721a1e21b3fb14da5ed7b9526d84dd2444d208eace2e6"), looks := true }, kinds := [], alts := [], laidByText := true, laidKinds := [.data, .data, .data, .sentinel, .sentinel], laidTests := true, laidLooks := .later }
def SeglogRowsCardSaid : Prop := Claim7.holds Tryd.pinned (.plain (OpenSpec.ofChange seglogRowsSpec)) seglogRowsCard

/-- THE TIED CARD OF 'rubriclaw04.SeglogKeeps'. -/
def seglogKeepsCard : Claim7 := { stood := { row := seglogKeepsRow, standIns := [], harness := (true, "1dbf67aded44729c1b6721a1e21b3fb14da5ed7b9526d84dd2444d208eace2e6"), looks := true }, kinds := [], alts := [], laidByText := true, laidKinds := [.data, .data, .data, .sentinel, .sentinel], laidTests := true, laidLooks := .later }
def SeglogKeepsCardSaid : Prop := Claim7.holds Tryd.pinned (.plain (OpenSpec.ofChange seglogKeepsSpec)) seglogKeepsCard

/-- THE SECOND FORM's CARD OF 'rubriclaw04.SeglogNames'. -/
def seglogNamesUptoCard : Claim7 := { stood := { row := seglogNamesUptoRow, standIns := [], harness := (true, "1dbf67aded44729c1b6721a1e21b3fb14da5ed7b9526d84dd2444d208eace2e6"), looks := true }, kinds := [], alts := [], laidByText := true, laidKinds := [.data, .data, .data, .sentinel, .sentinel], laidTests := true, laidLooks := .later }
def SeglogNamesUptoCardSaid : Prop := Claim7.holds Tryd.pinned (.plain (OpenSpec.upto seglogNamesSpec)) seglogNamesUptoCard

/-- THE SECOND FORM's CARD OF 'rubriclaw04.SeglogRows'. -/
def seglogRowsUptoCard : Claim7 := { stood := { row := seglogRowsUptoRow, standIns := [], harness := (true, "1dbf67aded44729c1b6721a1e21b3fb14da5ed7b9526d84dd2444d208eace2e6"), looks := true }, kinds := [], alts := [], laidByText := true, laidKinds := [.data, .data, .data, .sentinel, .sentinel], laidTests := true, laidLooks := .later }
def SeglogRowsUptoCardSaid : Prop := Claim7.holds Tryd.pinned (.plain (OpenSpec.upto seglogRowsSpec)) seglogRowsUptoCard

/-- THE SECOND FORM's CARD OF 'rubriclaw04.SeglogKeeps'. -/
def seglogKeepsUptoCard : Claim7 := { stood := { row := seglogKeepsUptoRow, standIns := [], harness := (true, "1dbf67aded44729c1b6721a1e21b3fb14da5ed7b9526d84dd2444d208eace2e6"), looks := true }, kinds := [], alts := [], laidByText := true, laidKinds := [.data, .data, .data, .sentinel, .sentinel], laidTests := true, laidLooks := .later }
def SeglogKeepsUptoCardSaid : Prop := Claim7.holds Tryd.pinned (.plain (OpenSpec.upto seglogKeepsSpec)) seglogKeepsUptoCard
end Rows
end Go.Proofs.YtcimobbppmpmgaaDoor
