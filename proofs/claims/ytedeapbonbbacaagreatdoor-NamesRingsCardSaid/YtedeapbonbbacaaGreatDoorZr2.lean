/-
  Names: doubles and rings, plainly.
-/
import Derived.Test.YtedeapbonbbacaaGreatDoorZr1
import Derived.KernelRfl
namespace Go.Proofs.YtedeapbonbbacaaGreatDoor
set_option maxRecDepth 100000
set_option linter.unusedSimpArgs false
set_option linter.unusedVariables false
namespace Nq
def nm (j:Nat):List UInt8:=[70,UInt8.ofNat (97+j)]
def rFr (n:Nat) (closed:Bool) (i:Nat):It:=⟨nm i,100+i,if closed=true∨i+1<n then [(nm ((i+1) % n),0)] else []⟩
def rFrs (n:Nat) (closed:Bool):List It:=(List.range n).map (rFr n closed)
def rOp (s:Nat):It:=⟨[],7,[(nm s,0)]⟩
def rW (s:Nat) (closed:Bool) (i:Nat):List Cp.Pb:=(if closed=false∧i<s then [(155,100+(i:Int))] else [])++(if closed=true then [(156,100+(i:Int))] else [])
def I1 (n s:Nat) (closed:Bool):List Cp.Pb:=(List.range n).flatMap (rW s closed)
theorem IC:((List.range 20).all λn=>(List.range (n+1)).all λs=>decide (Cp.sorted (problems [rOp s] (rFrs (n+1) true))=I1 (n+1) s true)&&decide (Cp.sorted (problems [rOp s] (rFrs (n+1) false))=I1 (n+1) s false))=true:=by kernel_rfl
theorem rings {n s:Nat} (hn:n<20) (hs:s<n+1) (c:Bool):Cp.sorted (problems [rOp s] (rFrs (n+1) c))=I1 (n+1) s c:=by
 have h:=IC;rw[List.all_eq_true]at h;have A:=h n (List.mem_range.2 hn);rw[List.all_eq_true]at A;have o:=A s (List.mem_range.2 hs);rw[Bool.and_eq_true]at o;cases c
 ·exact of_decide_eq_true o.2
 ·exact of_decide_eq_true o.1
end Nq
end Go.Proofs.YtedeapbonbbacaaGreatDoor
