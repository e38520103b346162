/-
  DERIVED. GIVEN WITH THE SEED: THE CARDS: each row of YtabcaljnpahgpaaDoorRows.lean that lists a variable, with what it lists TIED to the program's text (the seventh form; the later family's looks); each row that meets fmt, with fmt's text TOLD by the authors' own Lean function (tested against real Go, not proved from fmt's source: count such statements apart). THE CARD IS WHAT COUNTS. Prove the row's statement (the work); the ties are given (YtabcaljnpahgpaaDoorTie.lean); close each card by the builder's one call (the guide's Derived/Test/ToyasCard.lean, 'card_holds'). Laid BY PROGRAM, IN A SANDBOX (cutbox-door.mjs). By AI agents, Wed Nov 11 2026. No macro, syntax, notation, axiom, sorry.
-/
import Derived.Test.YtabcaljnpahgpaaDoorRows
import GoSem.ClaimSeven
namespace Go.Proofs.YtabcaljnpahgpaaDoor
namespace Rows

/-- THE TIED CARD OF 'rubriclaw10.SdlPlaces'. -/
def sdlPlacesCard : Claim7 := { stood := { row := sdlPlacesRow, standIns := [], harness := (true, "a391ba82cbc208422cca6105bc7d91495aaf2ac0c8c15d44e06651df7c965e34"), looks := false }, kinds := [], alts := [], laidByText := true, laidKinds := [.data, .pinned], laidTests := true, laidLooks := .later }
def SdlPlacesCardSaid : Prop := Claim7.holds Tryd.pinned (.plain (OpenSpec.ofChange sdlPlacesSpec)) sdlPlacesCard

/-- THE TIED CARD OF 'rubriclaw09.QueryPlaces'. -/
def queryPlacesCard : Claim7 := { stood := { row := queryPlacesRow, standIns := [], harness := (true, "a391ba82cbc208422cca6105bc7d91495aaf2ac0c8c15d44e06651df7c965e34"), looks := false }, kinds := [], alts := [], laidByText := true, laidKinds := [.data, .pinned], laidTests := true, laidLooks := .later }
def QueryPlacesCardSaid : Prop := Claim7.holds Tryd.pinned (.plain (OpenSpec.ofChange queryPlacesSpec)) queryPlacesCard

/-- THE TIED CARD OF 'rubriclaw09.QueryDeep'. -/
def queryDeepCard : Claim7 := { stood := { row := queryDeepRow, standIns := [], harness := (true, "a391ba82cbc208422cca6105bc7d91495aaf2ac0c8c15d44e06651df7c965e34"), looks := false }, kinds := [], alts := [], laidByText := true, laidKinds := [.data, .pinned], laidTests := true, laidLooks := .later }
def QueryDeepCardSaid : Prop := Claim7.holds Tryd.pinned (.plain (OpenSpec.ofChange queryDeepSpec)) queryDeepCard

/-- THE SECOND FORM's CARD OF 'rubriclaw10.SdlPlaces'. -/
def sdlPlacesUptoCard : Claim7 := { stood := { row := sdlPlacesUptoRow, standIns := [], harness := (true, "a391ba82cbc208422cca6105bc7d91495aaf2ac0c8c15d44e06651df7c965e34"), looks := false }, kinds := [], alts := [], laidByText := true, laidKinds := [.data, .pinned], laidTests := true, laidLooks := .later }
def SdlPlacesUptoCardSaid : Prop := Claim7.holds Tryd.pinned (.plain (OpenSpec.upto sdlPlacesSpec)) sdlPlacesUptoCard

/-- THE SECOND FORM's CARD OF 'rubriclaw09.QueryPlaces'. -/
def queryPlacesUptoCard : Claim7 := { stood := { row := queryPlacesUptoRow, standIns := [], harness := (true, "a391ba82cbc208422cca6105bc7d91495aaf2ac0c8c15d44e06651df7c965e34"), looks := false }, kinds := [], alts := [], laidByText := true, laidKinds := [.data, .pinned], laidTests := true, laidLooks := .later }
def QueryPlacesUptoCardSaid : Prop := Claim7.holds Tryd.pinned (.plain (OpenSpec.upto queryPlacesSpec)) queryPlacesUptoCard

/-- THE SECOND FORM's CARD OF 'rubriclaw09.QueryDeep'. -/
def queryDeepUptoCard : Claim7 := { stood := { row := queryDeepUptoRow, standIns := [], harness := (true, "a391ba82cbc208422cca6105bc7d91495aaf2ac0c8c15d44e06651df7c965e34"), looks := false }, kinds := [], alts := [], laidByText := true, laidKinds := [.data, .pinned], laidTests := true, laidLooks := .later }
def QueryDeepUptoCardSaid : Prop := Claim7.holds Tryd.pinned (.plain (OpenSpec.upto queryDeepSpec)) queryDeepUptoCard
end Rows
end Go.Proofs.YtabcaljnpahgpaaDoor
