/-
  The texts of 'awake' of the values' law, read and shown plain.
-/
import Derived.Test.YtabcaljnpahgpaaGreatDoorVsh
import Derived.Test.YtabcaljnpahgpaaGreatDoorVlm
import Derived.Test.YtabcaljnpahgpaaGreatDoorVswf
namespace Go.Proofs.YtabcaljnpahgpaaGreatDoor
set_option linter.unusedSimpArgs false
set_option linter.unusedVariables false
open Go Go.RowKit
namespace Vl
def t1 : List UInt8 := [91, 49, 32, 123, 97, 58, 36, 98, 125, 93]
def t2 : List UInt8 := [123, 97, 32, 49, 125]
set_option maxRecDepth 100000 in
theorem parse_t1 : (parse t1 false).1.err = 0 ∧ (shown (ofV (parse t1 false).2)).out = [91, 49, 44, 32, 123, 97, 58, 32, 36, 98, 125, 93] ∧ (shown (ofV (parse t1 false).2)).bad = false ∧ (ofV (parse t1 false).2).cost ≤ 1000 :=
  ⟨by kernel_rfl, by kernel_rfl, by kernel_rfl, of_decide_eq_true (by kernel_rfl)⟩
set_option maxRecDepth 100000 in
theorem parse_t2 : (parse t2 false).1.err = 41 ∧ (parse t2 false).1.at_ = 3 := ⟨by kernel_rfl, by kernel_rfl⟩
end Vl
end Go.Proofs.YtabcaljnpahgpaaGreatDoor
