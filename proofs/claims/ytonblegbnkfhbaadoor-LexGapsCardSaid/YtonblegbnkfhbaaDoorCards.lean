/-
  DERIVED. GIVEN WITH THE SEED: THE CARDS: each row of YtonblegbnkfhbaaDoorRows.lean that lists a variable, with what it lists TIED to the program's text (the seventh form; the later family's looks); each row that meets fmt, with fmt's text TOLD by the authors' own Lean function (tested against real Go, not proved from fmt's source: count such statements apart). THE CARD IS WHAT COUNTS. Prove the row's statement (the work); the ties are given (YtonblegbnkfhbaaDoorTie.lean); close each card by the builder's one call (the guide's Derived/Test/ToyasCard.lean, 'card_holds'). Laid BY PROGRAM, IN A SANDBOX (cutbox-door.mjs). By AI agents, Wed Nov 11 2026. No macro, syntax, notation, axiom, sorry.
-/
import Derived.Test.YtonblegbnkfhbaaDoorRows
import GoSem.ClaimSeven
namespace Go.Proofs.YtonblegbnkfhbaaDoor
namespace Rows

/-- THE TIED CARD OF 'rubriclaw07.LexStands'. -/
def lexStandsCard : Claim7 := { stood := { row := lexStandsRow, standIns := [], harness := (true, "63443d1929dc392dd8eb6a47c51fad66ea50e9bca22cf2954ec246cb84cd4474"), looks := false }, kinds := [], alts := [], laidByText := true, laidKinds := [.data, .pinned], laidTests := true, laidLooks := .later }
def LexStandsCardSaid : Prop := Claim7.holds Tryd.pinned (.plain (OpenSpec.ofChange lexStandsSpec)) lexStandsCard

/-- THE TIED CARD OF 'rubriclaw07.LexBlocks'. -/
def lexBlocksCard : Claim7 := { stood := { row := lexBlocksRow, standIns := [], harness := (true, "63443d1929dc392dd8eb6a47c51fad66ea50e9bca22cf2954ec246cb84cd4474"), looks := false }, kinds := [], alts := [], laidByText := true, laidKinds := [.data, .pinned], laidTests := true, laidLooks := .later }
def LexBlocksCardSaid : Prop := Claim7.holds Tryd.pinned (.plain (OpenSpec.ofChange lexBlocksSpec)) lexBlocksCard

/-- THE TIED CARD OF 'rubriclaw07.LexMany'. -/
def lexManyCard : Claim7 := { stood := { row := lexManyRow, standIns := [], harness := (true, "63443d1929dc392dd8eb6a47c51fad66ea50e9bca22cf2954ec246cb84cd4474"), looks := false }, kinds := [], alts := [], laidByText := true, laidKinds := [.data, .pinned], laidTests := true, laidLooks := .later }
def LexManyCardSaid : Prop := Claim7.holds Tryd.pinned (.plain (OpenSpec.ofChange lexManySpec)) lexManyCard

/-- THE TIED CARD OF 'rubriclaw07.LexNames'. -/
def lexNamesCard : Claim7 := { stood := { row := lexNamesRow, standIns := [], harness := (true, "63443d1929dc392dd8eb6a47c51fad66ea50e9bca22cf2954ec246cb84cd4474"), looks := false }, kinds := [], alts := [], laidByText := true, laidKinds := [.data, .pinned], laidTests := true, laidLooks := .later }
def LexNamesCardSaid : Prop := Claim7.holds Tryd.pinned (.plain (OpenSpec.ofChange lexNamesSpec)) lexNamesCard

/-- THE TIED CARD OF 'rubriclaw07.LexQuotes'. -/
def lexQuotesCard : Claim7 := { stood := { row := lexQuotesRow, standIns := [], harness := (true, "63443d1929dc392dd8eb6a47c51fad66ea50e9bca22cf2954ec246cb84cd4474"), looks := false }, kinds := [], alts := [], laidByText := true, laidKinds := [.data, .pinned], laidTests := true, laidLooks := .later }
def LexQuotesCardSaid : Prop := Claim7.holds Tryd.pinned (.plain (OpenSpec.ofChange lexQuotesSpec)) lexQuotesCard

/-- THE TIED CARD OF 'rubriclaw07.LexGaps'. -/
def lexGapsCard : Claim7 := { stood := { row := lexGapsRow, standIns := [], harness := (true, "63443d1929dc392dd8eb6a47c51fad66ea50e9bca22cf2954ec246cb84cd4474"), looks := false }, kinds := [], alts := [], laidByText := true, laidKinds := [.data, .pinned], laidTests := true, laidLooks := .later }
def LexGapsCardSaid : Prop := Claim7.holds Tryd.pinned (.plain (OpenSpec.ofChange lexGapsSpec)) lexGapsCard

/-- THE SECOND FORM's CARD OF 'rubriclaw07.LexStands'. -/
def lexStandsUptoCard : Claim7 := { stood := { row := lexStandsUptoRow, standIns := [], harness := (true, "63443d1929dc392dd8eb6a47c51fad66ea50e9bca22cf2954ec246cb84cd4474"), looks := false }, kinds := [], alts := [], laidByText := true, laidKinds := [.data, .pinned], laidTests := true, laidLooks := .later }
def LexStandsUptoCardSaid : Prop := Claim7.holds Tryd.pinned (.plain (OpenSpec.upto lexStandsSpec)) lexStandsUptoCard

/-- THE SECOND FORM's CARD OF 'rubriclaw07.LexBlocks'. -/
def lexBlocksUptoCard : Claim7 := { stood := { row := lexBlocksUptoRow, standIns := [], harness := (true, "63443d1929dc392dd8eb6a47c51fad66ea50e9bca22cf2954ec246cb84cd4474"), looks := false }, kinds := [], alts := [], laidByText := true, laidKinds := [.data, .pinned], laidTests := true, laidLooks := .later }
def LexBlocksUptoCardSaid : Prop := Claim7.holds Tryd.pinned (.plain (OpenSpec.upto lexBlocksSpec)) lexBlocksUptoCard

/-- THE SECOND FORM's CARD OF 'rubriclaw07.LexMany'. -/
def lexManyUptoCard : Claim7 := { stood := { row := lexManyUptoRow, standIns := [], harness := (true, "63443d1929dc392dd8eb6a47c51fad66ea50e9bca22cf2954ec246cb84cd4474"), looks := false }, kinds := [], alts := [], laidByText := true, laidKinds := [.data, .pinned], laidTests := true, laidLooks := .later }
def LexManyUptoCardSaid : Prop := Claim7.holds Tryd.pinned (.plain (OpenSpec.upto lexManySpec)) lexManyUptoCard

/-- THE SECOND FORM's CARD OF 'rubriclaw07.LexNames'. -/
def lexNamesUptoCard : Claim7 := { stood := { row := lexNamesUptoRow, standIns := [], harness := (true, "63443d1929dc392dd8eb6a47c51fad66ea50e9bca22cf2954ec246cb84cd4474"), looks := false }, kinds := [], alts := [], laidByText := true, laidKinds := [.data, .pinned], laidTests := true, laidLooks := .later }
def LexNamesUptoCardSaid : Prop := Claim7.holds Tryd.pinned (.plain (OpenSpec.upto lexNamesSpec)) lexNamesUptoCard

/-- THE SECOND FORM's CARD OF 'rubriclaw07.LexQuotes'. -/
def lexQuotesUptoCard : Claim7 := { stood := { row := lexQuotesUptoRow, standIns := [], harness := (true, "63443d1929dc392dd8eb6a47c51fad66ea50e9bca22cf2954ec246cb84cd4474"), looks := false }, kinds := [], alts := [], laidByText := true, laidKinds := [.data, .pinned], laidTests := true, laidLooks := .later }
def LexQuotesUptoCardSaid : Prop := Claim7.holds Tryd.pinned (.plain (OpenSpec.upto lexQuotesSpec)) lexQuotesUptoCard

/-- THE SECOND FORM's CARD OF 'rubriclaw07.LexGaps'. -/
def lexGapsUptoCard : Claim7 := { stood := { row := lexGapsUptoRow, standIns := [], harness := (true, "63443d1929dc392dd8eb6a47c51fad66ea50e9bca22cf2954ec246cb84cd4474"), looks := false }, kinds := [], alts := [], laidByText := true, laidKinds := [.data, .pinned], laidTests := true, laidLooks := .later }
def LexGapsUptoCardSaid : Prop := Claim7.holds Tryd.pinned (.plain (OpenSpec.upto lexGapsSpec)) lexGapsUptoCard
end Rows
end Go.Proofs.YtonblegbnkfhbaaDoor
