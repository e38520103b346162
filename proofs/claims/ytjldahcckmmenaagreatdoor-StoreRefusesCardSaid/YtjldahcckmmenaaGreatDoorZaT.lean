/-
  The cards of StoreFull, StoreAgain and StoreRefuses: each statement of the card's row, told for every input.
-/
import Derived.Test.YtjldahcckmmenaaGreatDoorZa24
namespace Go.Proofs.YtjldahcckmmenaaGreatDoor
theorem storeFullCard:Rows.StoreFullCardSaid:=storeFull.card
theorem storeAgainCard:Rows.StoreAgainCardSaid:=storeAgain.card
theorem storeRefusesCard:Rows.StoreRefusesCardSaid:=storeRefuses.card
end Go.Proofs.YtjldahcckmmenaaGreatDoor
