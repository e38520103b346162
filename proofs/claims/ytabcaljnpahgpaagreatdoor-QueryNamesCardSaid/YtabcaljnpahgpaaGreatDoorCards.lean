/-
  DERIVED. GIVEN WITH THE SEED: THE CARDS: each row of YtabcaljnpahgpaaGreatDoorRows.lean that lists a variable, with what it lists TIED to the program's text (the seventh form; the later family's looks); each row that meets fmt, with fmt's text TOLD by the authors' own Lean function (tested against real Go, not proved from fmt's source: count such statements apart). THE CARD IS WHAT COUNTS. Prove the row's statement (the work); the ties are given (YtabcaljnpahgpaaGreatDoorTie.lean); close each card by the builder's one call (the guide's Derived/Test/ToyasCard.lean, 'card_holds'). Laid BY PROGRAM, IN A SANDBOX (cutbox-door.mjs). By AI agents, Wed Nov 11 2026. No macro, syntax, notation, axiom, sorry.
-/
import Derived.Test.YtabcaljnpahgpaaGreatDoorRows
import GoSem.ClaimSeven
namespace Go.Proofs.YtabcaljnpahgpaaGreatDoor
namespace Rows

/-- THE TIED CARD OF 'rubriclaw10.SdlJoins'. -/
def sdlJoinsCard : Claim7 := { stood := { row := sdlJoinsRow, standIns := [], harness := (true, "e11e95fb23fbaeaf7e407395e5c119bc36c31efb729efc8cbc9432941d4914f6"), looks := false }, kinds := [], alts := [], laidByText := true, laidKinds := [.data, .pinned], laidTests := true, laidLooks := .later }
def SdlJoinsCardSaid : Prop := Claim7.holds Tryz.pinned (.plain (OpenSpec.ofChange sdlJoinsSpec)) sdlJoinsCard

/-- THE TIED CARD OF 'rubriclaw10.SdlStrings'. -/
def sdlStringsCard : Claim7 := { stood := { row := sdlStringsRow, standIns := [], harness := (true, "e11e95fb23fbaeaf7e407395e5c119bc36c31efb729efc8cbc9432941d4914f6"), looks := false }, kinds := [], alts := [], laidByText := true, laidKinds := [.data, .pinned], laidTests := true, laidLooks := .later }
def SdlStringsCardSaid : Prop := Claim7.holds Tryz.pinned (.plain (OpenSpec.ofChange sdlStringsSpec)) sdlStringsCard

/-- THE TIED CARD OF 'rubriclaw09.QueryNames'. -/
def queryNamesCard : Claim7 := { stood := { row := queryNamesRow, standIns := [], harness := (true, "e11e95fb23fbaeaf7e407395e5c119bc36c31efb729efc8cbc9432941d4914f6"), looks := false }, kinds := [], alts := [], laidByText := true, laidKinds := [.data, .pinned], laidTests := true, laidLooks := .later }
def QueryNamesCardSaid : Prop := Claim7.holds Tryz.pinned (.plain (OpenSpec.ofChange queryNamesSpec)) queryNamesCard

/-- THE TIED CARD OF 'rubriclaw08.ValueNames'. -/
def valueNamesCard : Claim7 := { stood := { row := valueNamesRow, standIns := [], harness := (true, "e11e95fb23fbaeaf7e407395e5c119bc36c31efb729efc8cbc9432941d4914f6"), looks := false }, kinds := [], alts := [], laidByText := true, laidKinds := [.data, .pinned], laidTests := true, laidLooks := .later }
def ValueNamesCardSaid : Prop := Claim7.holds Tryz.pinned (.plain (OpenSpec.ofChange valueNamesSpec)) valueNamesCard

/-- THE TIED CARD OF 'rubriclaw08.ValueShows'. -/
def valueShowsCard : Claim7 := { stood := { row := valueShowsRow, standIns := [], harness := (true, "e11e95fb23fbaeaf7e407395e5c119bc36c31efb729efc8cbc9432941d4914f6"), looks := false }, kinds := [], alts := [], laidByText := true, laidKinds := [.data, .pinned], laidTests := true, laidLooks := .later }
def ValueShowsCardSaid : Prop := Claim7.holds Tryz.pinned (.plain (OpenSpec.ofChange valueShowsSpec)) valueShowsCard

/-- THE TIED CARD OF 'rubriclaw08.ValueGood'. -/
def valueGoodCard : Claim7 := { stood := { row := valueGoodRow, standIns := [], harness := (true, "e11e95fb23fbaeaf7e407395e5c119bc36c31efb729efc8cbc9432941d4914f6"), looks := false }, kinds := [], alts := [], laidByText := true, laidKinds := [.data, .pinned], laidTests := true, laidLooks := .later }
def ValueGoodCardSaid : Prop := Claim7.holds Tryz.pinned (.plain (OpenSpec.ofChange valueGoodSpec)) valueGoodCard

/-- THE TIED CARD OF 'rubriclaw08.ValueSame'. -/
def valueSameCard : Claim7 := { stood := { row := valueSameRow, standIns := [], harness := (true, "e11e95fb23fbaeaf7e407395e5c119bc36c31efb729efc8cbc9432941d4914f6"), looks := false }, kinds := [], alts := [], laidByText := true, laidKinds := [.data, .pinned], laidTests := true, laidLooks := .later }
def ValueSameCardSaid : Prop := Claim7.holds Tryz.pinned (.plain (OpenSpec.ofChange valueSameSpec)) valueSameCard

/-- THE TIED CARD OF 'rubriclaw08.ValueDeep'. -/
def valueDeepCard : Claim7 := { stood := { row := valueDeepRow, standIns := [], harness := (true, "e11e95fb23fbaeaf7e407395e5c119bc36c31efb729efc8cbc9432941d4914f6"), looks := false }, kinds := [], alts := [], laidByText := true, laidKinds := [.data, .pinned], laidTests := true, laidLooks := .later }
def ValueDeepCardSaid : Prop := Claim7.holds Tryz.pinned (.plain (OpenSpec.ofChange valueDeepSpec)) valueDeepCard

/-- THE SECOND FORM's CARD OF 'rubriclaw10.SdlJoins'. -/
def sdlJoinsUptoCard : Claim7 := { stood := { row := sdlJoinsUptoRow, standIns := [], harness := (true, "e11e95fb23fbaeaf7e407395e5c119bc36c31efb729efc8cbc9432941d4914f6"), looks := false }, kinds := [], alts := [], laidByText := true, laidKinds := [.data, .pinned], laidTests := true, laidLooks := .later }
def SdlJoinsUptoCardSaid : Prop := Claim7.holds Tryz.pinned (.plain (OpenSpec.upto sdlJoinsSpec)) sdlJoinsUptoCard

/-- THE SECOND FORM's CARD OF 'rubriclaw10.SdlStrings'. -/
def sdlStringsUptoCard : Claim7 := { stood := { row := sdlStringsUptoRow, standIns := [], harness := (true, "e11e95fb23fbaeaf7e407395e5c119bc36c31efb729efc8cbc9432941d4914f6"), looks := false }, kinds := [], alts := [], laidByText := true, laidKinds := [.data, .pinned], laidTests := true, laidLooks := .later }
def SdlStringsUptoCardSaid : Prop := Claim7.holds Tryz.pinned (.plain (OpenSpec.upto sdlStringsSpec)) sdlStringsUptoCard

/-- THE SECOND FORM's CARD OF 'rubriclaw09.QueryNames'. -/
def queryNamesUptoCard : Claim7 := { stood := { row := queryNamesUptoRow, standIns := [], harness := (true, "e11e95fb23fbaeaf7e407395e5c119bc36c31efb729efc8cbc9432941d4914f6"), looks := false }, kinds := [], alts := [], laidByText := true, laidKinds := [.data, .pinned], laidTests := true, laidLooks := .later }
def QueryNamesUptoCardSaid : Prop := Claim7.holds Tryz.pinned (.plain (OpenSpec.upto queryNamesSpec)) queryNamesUptoCard

/-- THE SECOND FORM's CARD OF 'rubriclaw08.ValueNames'. -/
def valueNamesUptoCard : Claim7 := { stood := { row := valueNamesUptoRow, standIns := [], harness := (true, "e11e95fb23fbaeaf7e407395e5c119bc36c31efb729efc8cbc9432941d4914f6"), looks := false }, kinds := [], alts := [], laidByText := true, laidKinds := [.data, .pinned], laidTests := true, laidLooks := .later }
def ValueNamesUptoCardSaid : Prop := Claim7.holds Tryz.pinned (.plain (OpenSpec.upto valueNamesSpec)) valueNamesUptoCard

/-- THE SECOND FORM's CARD OF 'rubriclaw08.ValueShows'. -/
def valueShowsUptoCard : Claim7 := { stood := { row := valueShowsUptoRow, standIns := [], harness := (true, "e11e95fb23fbaeaf7e407395e5c119bc36c31efb729efc8cbc9432941d4914f6"), looks := false }, kinds := [], alts := [], laidByText := true, laidKinds := [.data, .pinned], laidTests := true, laidLooks := .later }
def ValueShowsUptoCardSaid : Prop := Claim7.holds Tryz.pinned (.plain (OpenSpec.upto valueShowsSpec)) valueShowsUptoCard

/-- THE SECOND FORM's CARD OF 'rubriclaw08.ValueGood'. -/
def valueGoodUptoCard : Claim7 := { stood := { row := valueGoodUptoRow, standIns := [], harness := (true, "e11e95fb23fbaeaf7e407395e5c119bc36c31efb729efc8cbc9432941d4914f6"), looks := false }, kinds := [], alts := [], laidByText := true, laidKinds := [.data, .pinned], laidTests := true, laidLooks := .later }
def ValueGoodUptoCardSaid : Prop := Claim7.holds Tryz.pinned (.plain (OpenSpec.upto valueGoodSpec)) valueGoodUptoCard

/-- THE SECOND FORM's CARD OF 'rubriclaw08.ValueSame'. -/
def valueSameUptoCard : Claim7 := { stood := { row := valueSameUptoRow, standIns := [], harness := (true, "e11e95fb23fbaeaf7e407395e5c119bc36c31efb729efc8cbc9432941d4914f6"), looks := false }, kinds := [], alts := [], laidByText := true, laidKinds := [.data, .pinned], laidTests := true, laidLooks := .later }
def ValueSameUptoCardSaid : Prop := Claim7.holds Tryz.pinned (.plain (OpenSpec.upto valueSameSpec)) valueSameUptoCard

/-- THE SECOND FORM's CARD OF 'rubriclaw08.ValueDeep'. -/
def valueDeepUptoCard : Claim7 := { stood := { row := valueDeepUptoRow, standIns := [], harness := (true, "e11e95fb23fbaeaf7e407395e5c119bc36c31efb729efc8cbc9432941d4914f6"), looks := false }, kinds := [], alts := [], laidByText := true, laidKinds := [.data, .pinned], laidTests := true, laidLooks := .later }
def ValueDeepUptoCardSaid : Prop := Claim7.holds Tryz.pinned (.plain (OpenSpec.upto valueDeepSpec)) valueDeepUptoCard
end Rows
end Go.Proofs.YtabcaljnpahgpaaGreatDoor
