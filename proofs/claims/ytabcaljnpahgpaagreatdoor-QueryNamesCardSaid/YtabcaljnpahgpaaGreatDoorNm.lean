/-
  A text that is a name (no program in sight).
-/
import Derived.Test.YtabcaljnpahgpaaGreatDoorK1
namespace Go.Proofs.YtabcaljnpahgpaaGreatDoor
def Lx.isName (l : List UInt8) : Bool := Lx.isLetter (Lx.hd l) && l.all Lx.isWord
end Go.Proofs.YtabcaljnpahgpaaGreatDoor
