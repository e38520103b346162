/-
  Names: doubles and rings, plainly.
-/
import Derived.Test.YtedeapbonbbacaaGreatDoorZd1
import Derived.KernelRfl
namespace Go.Proofs.YtedeapbonbbacaaGreatDoor
set_option maxRecDepth 100000
set_option linter.unusedSimpArgs false
set_option linter.unusedVariables false
namespace Nq
def dOp (i:Nat):It:=⟨[81],i,[([70],50)]⟩
def dFr (i:Nat):It:=⟨[70],100+i,[]⟩
def dW1 (i:Nat):List Cp.Pb:=if 0<i then [(152,(i:Int))] else []
def dW2 (i:Nat):List Cp.Pb:=if 0<i then [(154,100+(i:Int)),(155,100+(i:Int))] else []
def dOps (n:Nat):List It:=(List.range n).map dOp
def dFrs (n:Nat):List It:=(List.range n).map dFr
def KV (n m:Nat):List Cp.Pb:=(List.range n).flatMap dW1++(List.range m).flatMap dW2
theorem Fu:((List.range 9).all λn=>(List.range 9).all λm=>decide (Cp.sorted (problems (dOps (n+1)) (dFrs (m+1)))=KV (n+1) (m+1)))=true:=by kernel_rfl
theorem doubles {n m:Nat} (hn:n<9) (hm:m<9):Cp.sorted (problems (dOps (n+1)) (dFrs (m+1)))=KV (n+1) (m+1):=by
 have h:=Fu;rw[List.all_eq_true]at h;have o:=h n (List.mem_range.2 hn);rw[List.all_eq_true]at o;exact of_decide_eq_true (o m (List.mem_range.2 hm))
def nm (j:Nat):List UInt8:=[70,UInt8.ofNat (97+j)]
end Nq
end Go.Proofs.YtedeapbonbbacaaGreatDoor
