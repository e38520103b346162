/-
  DERIVED. GIVEN WITH THE SEED: THE CARDS: each row of YtcinagglbkbmkaaGreatDoorRows.lean that lists a variable, with what it lists TIED to the program's text (the seventh form; the later family's looks); each row that meets fmt, with fmt's text TOLD by the authors' own Lean function (tested against real Go, not proved from fmt's source: count such statements apart). THE CARD IS WHAT COUNTS. Prove the row's statement (the work); the ties are given (YtcinagglbkbmkaaGreatDoorTie.lean); close each card by the builder's one call (the guide's Derived/Test/ToyasCard.lean, 'card_holds'). Laid BY PROGRAM, IN A SANDBOX (cutbox-door.mjs). By AI agents, Wed Nov 11 2026. No macro, syntax, notation, axiom, sorry.
-/
import Derived.Test.YtcinagglbkbmkaaGreatDoorRows
import GoSem.ClaimSeven
namespace Go.Proofs.YtcinagglbkbmkaaGreatDoor
namespace Rows

/-- THE TIED CARD OF 'rubriclaw05.ManifestBytes'. -/
def manifestBytesCard : Claim7 := { stood := { row := manifestBytesRow, standIns := [], harness := (true, "2498b5aaa803a6f6e353caf88be291e7bb779710425b053dbdba551b9c2cf346"), looks := true }, kinds := [], alts := [], laidByText := true, laidKinds := [.data, .data, .data, .data, .sentinel, .sentinel, .pinned], laidTests := true, laidLooks := .later }
def ManifestBytesCardSaid : Prop := Claim7.holds Tryz.pinned (.plain (OpenSpec.ofChange manifestBytesSpec)) manifestBytesCard

/-- THE TIED CARD OF 'rubriclaw05.ManifestLast'. -/
def manifestLastCard : Claim7 := { stood := { row := manifestLastRow, standIns := [], harness := (true, "2498b5aaa803a6f6e353caf88be291e7bb779710425b053dbdba551b9c2cf346"), looks := true }, kinds := [], alts := [], laidByText := true, laidKinds := [.data, .data, .data, .data, .sentinel, .sentinel, .pinned], laidTests := true, laidLooks := .later }
def ManifestLastCardSaid : Prop := Claim7.holds Tryz.pinned (.plain (OpenSpec.ofChange manifestLastSpec)) manifestLastCard

/-- THE TIED CARD OF 'rubriclaw05.ManifestSwaps'. -/
def manifestSwapsCard : Claim7 := { stood := { row := manifestSwapsRow, standIns := [], harness := (true, "2498b5aaa803a6f6e353caf88be291e7bb779710425b053dbdba551b9c2cf346"), looks := true }, kinds := [], alts := [], laidByText := true, laidKinds := [.data, .data, .data, .data, .sentinel, .sentinel, .pinned], laidTests := true, laidLooks := .later }
def ManifestSwapsCardSaid : Prop := Claim7.holds Tryz.pinned (.plain (OpenSpec.ofChange manifestSwapsSpec)) manifestSwapsCard

/-- THE TIED CARD OF 'rubriclaw05.ManifestCleans'. -/
def manifestCleansCard : Claim7 := { stood := { row := manifestCleansRow, standIns := [], harness := (true, "2498b5aaa803a6f6e353caf88be291e7bb779710425b053dbdba551b9c2cf346"), looks := true }, kinds := [], alts := [], laidByText := true, laidKinds := [.data, .data, .data, .data, .sentinel, .sentinel, .pinned], laidTests := true, laidLooks := .later }
def ManifestCleansCardSaid : Prop := Claim7.holds Tryz.pinned (.plain (OpenSpec.ofChange manifestCleansSpec)) manifestCleansCard

/-- THE TIED CARD OF 'rubriclaw05.ManifestPlays'. -/
def manifestPlaysCard : Claim7 := { stood := { row := manifestPlaysRow, standIns := [], harness := (true, "2498b5aaa803a6f6e353caf88be291e7bb779710425b053dbdba551b9c2cf346"), looks := true }, kinds := [], alts := [], laidByText := true, laidKinds := [.data, .data, .data, .data, .sentinel, .sentinel, .pinned], laidTests := true, laidLooks := .later }
def ManifestPlaysCardSaid : Prop := Claim7.holds Tryz.pinned (.plain (OpenSpec.ofChange manifestPlaysSpec)) manifestPlaysCard

/-- THE TIED CARD OF 'rubriclaw06.StoreOrder'. -/
def storeOrderCard : Claim7 := { stood := { row := storeOrderRow, standIns := [], harness := (true, "2498b5aaa803a6f6e353caf88be291e7bb779710425b053dbdba551b9c2cf346"), looks := true }, kinds := [], alts := [], laidByText := true, laidKinds := [.data, .data, .data, .data, .sentinel, .sentinel, .pinned], laidTests := true, laidLooks := .later }
def StoreOrderCardSaid : Prop := Claim7.holds Tryz.pinned (.plain (OpenSpec.ofChange storeOrderSpec)) storeOrderCard

/-- THE TIED CARD OF 'rubriclaw06.StoreFull'. -/
def storeFullCard : Claim7 := { stood := { row := storeFullRow, standIns := [], harness := (true, "2498b5aaa803a6f6e353caf88be291e7bb779710425b053dbdba551b9c2cf346"), looks := true }, kinds := [], alts := [], laidByText := true, laidKinds := [.data, .data, .data, .data, .sentinel, .sentinel, .pinned], laidTests := true, laidLooks := .later }
def StoreFullCardSaid : Prop := Claim7.holds Tryz.pinned (.plain (OpenSpec.ofChange storeFullSpec)) storeFullCard

/-- THE TIED CARD OF 'rubriclaw06.StoreRefuses'. -/
def storeRefusesCard : Claim7 := { stood := { row := storeRefusesRow, standIns := [], harness := (true, "2498b5aaa803a6f6e353caf88be291e7bb779710425b053dbdba551b9c2cf346"), looks := true }, kinds := [], alts := [], laidByText := true, laidKinds := [.data, .data, .data, .data, .sentinel, .sentinel, .pinned], laidTests := true, laidLooks := .later }
def StoreRefusesCardSaid : Prop := Claim7.holds Tryz.pinned (.plain (OpenSpec.ofChange storeRefusesSpec)) storeRefusesCard

/-- THE TIED CARD OF 'rubriclaw06.StoreAgain'. -/
def storeAgainCard : Claim7 := { stood := { row := storeAgainRow, standIns := [], harness := (true, "2498b5aaa803a6f6e353caf88be291e7bb779710425b053dbdba551b9c2cf346"), looks := true }, kinds := [], alts := [], laidByText := true, laidKinds := [.data, .data, .data, .data, .sentinel, .sentinel, .pinned], laidTests := true, laidLooks := .later }
def StoreAgainCardSaid : Prop := Claim7.holds Tryz.pinned (.plain (OpenSpec.ofChange storeAgainSpec)) storeAgainCard

/-- THE TIED CARD OF 'rubriclaw06.StoreCompacts'. -/
def storeCompactsCard : Claim7 := { stood := { row := storeCompactsRow, standIns := [], harness := (true, "2498b5aaa803a6f6e353caf88be291e7bb779710425b053dbdba551b9c2cf346"), looks := true }, kinds := [], alts := [], laidByText := true, laidKinds := [.data, .data, .data, .data, .sentinel, .sentinel, .pinned], laidTests := true, laidLooks := .later }
def StoreCompactsCardSaid : Prop := Claim7.holds Tryz.pinned (.plain (OpenSpec.ofChange storeCompactsSpec)) storeCompactsCard

/-- THE SECOND FORM's CARD OF 'rubriclaw05.ManifestBytes'. -/
def manifestBytesUptoCard : Claim7 := { stood := { row := manifestBytesUptoRow, standIns := [], harness := (true, "2498b5aaa803a6f6e353caf88be291e7bb779710425b053dbdba551b9c2cf346"), looks := true }, kinds := [], alts := [], laidByText := true, laidKinds := [.data, .data, .data, .data, .sentinel, .sentinel, .pinned], laidTests := true, laidLooks := .later }
def ManifestBytesUptoCardSaid : Prop := Claim7.holds Tryz.pinned (.plain (OpenSpec.upto manifestBytesSpec)) manifestBytesUptoCard

/-- THE SECOND FORM's CARD OF 'rubriclaw05.ManifestLast'. -/
def manifestLastUptoCard : Claim7 := { stood := { row := manifestLastUptoRow, standIns := [], harness := (true, "2498b5aaa803a6f6e353caf88be291e7bb779710425b053dbdba551b9c2cf346"), looks := true }, kinds := [], alts := [], laidByText := true, laidKinds := [.data, .data, .data, .data, .sentinel, .sentinel, .pinned], laidTests := true, laidLooks := .later }
def ManifestLastUptoCardSaid : Prop := Claim7.holds Tryz.pinned (.plain (OpenSpec.upto manifestLastSpec)) manifestLastUptoCard

/-- THE SECOND FORM's CARD OF 'rubriclaw05.ManifestSwaps'. -/
def manifestSwapsUptoCard : Claim7 := { stood := { row := manifestSwapsUptoRow, standIns := [], harness := (true, "2498b5aaa803a6f6e353caf88be291e7bb779710425b053dbdba551b9c2cf346"), looks := true }, kinds := [], alts := [], laidByText := true, laidKinds := [.data, .data, .data, .data, .sentinel, .sentinel, .pinned], laidTests := true, laidLooks := .later }
def ManifestSwapsUptoCardSaid : Prop := Claim7.holds Tryz.pinned (.plain (OpenSpec.upto manifestSwapsSpec)) manifestSwapsUptoCard

/-- THE SECOND FORM's CARD OF 'rubriclaw05.ManifestCleans'. -/
def manifestCleansUptoCard : Claim7 := { stood := { row := manifestCleansUptoRow, standIns := [], harness := (true, "2498b5aaa803a6f6e353caf88be291e7bb779710425b053dbdba551b9c2cf346"), looks := true }, kinds := [], alts := [], laidByText := true, laidKinds := [.data, .data, .data, .data, .sentinel, .sentinel, .pinned], laidTests := true, laidLooks := .later }
def ManifestCleansUptoCardSaid : Prop := Claim7.holds Tryz.pinned (.plain (OpenSpec.upto manifestCleansSpec)) manifestCleansUptoCard

/-- THE SECOND FORM's CARD OF 'rubriclaw05.ManifestPlays'. -/
def manifestPlaysUptoCard : Claim7 := { stood := { row := manifestPlaysUptoRow, standIns := [], harness := (true, "2498b5aaa803a6f6e353caf88be291e7bb779710425b053dbdba551b9c2cf346"), looks := true }, kinds := [], alts := [], laidByText := true, laidKinds := [.data, .data, .data, .data, .sentinel, .sentinel, .pinned], laidTests := true, laidLooks := .later }
def ManifestPlaysUptoCardSaid : Prop := Claim7.holds Tryz.pinned (.plain (OpenSpec.upto manifestPlaysSpec)) manifestPlaysUptoCard

/-- THE SECOND FORM's CARD OF 'rubriclaw06.StoreOrder'. -/
def storeOrderUptoCard : Claim7 := { stood := { row := storeOrderUptoRow, standIns := [], harness := (true, "2498b5aaa803a6f6e353caf88be291e7bb779710425b053dbdba551b9c2cf346"), looks := true }, kinds := [], alts := [], laidByText := true, laidKinds := [.data, .data, .data, .data, .sentinel, .sentinel, .pinned], laidTests := true, laidLooks := .later }
def StoreOrderUptoCardSaid : Prop := Claim7.holds Tryz.pinned (.plain (OpenSpec.upto storeOrderSpec)) storeOrderUptoCard

/-- THE SECOND FORM's CARD OF 'rubriclaw06.StoreFull'. -/
def storeFullUptoCard : Claim7 := { stood := { row := storeFullUptoRow, standIns := [], harness := (true, "2498b5aaa803a6f6e353caf88be291e7bb779710425b053dbdba551b9c2cf346"), looks := true }, kinds := [], alts := [], laidByText := true, laidKinds := [.data, .data, .data, .data, .sentinel, .sentinel, .pinned], laidTests := true, laidLooks := .later }
def StoreFullUptoCardSaid : Prop := Claim7.holds Tryz.pinned (.plain (OpenSpec.upto storeFullSpec)) storeFullUptoCard

/-- THE SECOND FORM's CARD OF 'rubriclaw06.StoreRefuses'. -/
def storeRefusesUptoCard : Claim7 := { stood := { row := storeRefusesUptoRow, standIns := [], harness := (true, "2498b5aaa803a6f6e353caf88be291e7bb779710425b053dbdba551b9c2cf346"), looks := true }, kinds := [], alts := [], laidByText := true, laidKinds := [.data, .data, .data, .data, .sentinel, .sentinel, .pinned], laidTests := true, laidLooks := .later }
def StoreRefusesUptoCardSaid : Prop := Claim7.holds Tryz.pinned (.plain (OpenSpec.upto storeRefusesSpec)) storeRefusesUptoCard

/-- THE SECOND FORM's CARD OF 'rubriclaw06.StoreAgain'. -/
def storeAgainUptoCard : Claim7 := { stood := { row := storeAgainUptoRow, standIns := [], harness := (true, "2498b5aaa803a6f6e353caf88be291e7bb779710425b053dbdba551b9c2cf346"), looks := true }, kinds := [], alts := [], laidByText := true, laidKinds := [.data, .data, .data, .data, .sentinel, .sentinel, .pinned], laidTests := true, laidLooks := .later }
def StoreAgainUptoCardSaid : Prop := Claim7.holds Tryz.pinned (.plain (OpenSpec.upto storeAgainSpec)) storeAgainUptoCard

/-- THE SECOND FORM's CARD OF 'rubriclaw06.StoreCompacts'. -/
def storeCompactsUptoCard : Claim7 := { stood := { row := storeCompactsUptoRow, standIns := [], harness := (true, "2498b5aaa803a6f6e353caf88be291e7bb779710425b053dbdba551b9c2cf346"), looks := true }, kinds := [], alts := [], laidByText := true, laidKinds := [.data, .data, .data, .data, .sentinel, .sentinel, .pinned], laidTests := true, laidLooks := .later }
def StoreCompactsUptoCardSaid : Prop := Claim7.holds Tryz.pinned (.plain (OpenSpec.upto storeCompactsSpec)) storeCompactsUptoCard
end Rows
end Go.Proofs.YtcinagglbkbmkaaGreatDoor
