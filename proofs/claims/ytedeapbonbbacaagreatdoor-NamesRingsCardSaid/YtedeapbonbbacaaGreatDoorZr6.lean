/-
  The two texts of 'awake' of the names' law, read plain.
-/
import Derived.Test.YtedeapbonbbacaaGreatDoorZr4
import Derived.Test.YtedeapbonbbacaaGreatDoorZr2
namespace Go.Proofs.YtedeapbonbbacaaGreatDoor
set_option maxRecDepth 100000
set_option maxHeartbeats 4000000
set_option linter.unusedSimpArgs false
set_option linter.unusedVariables false
def Ft:List UInt8:=[123,46,46,46,70,125,32,102,114,97,103,109,101,110,116,32,70,32,111,110,32,84,32,123,46,46,46,71,125,32,102,114,97,103,109,101,110,116,32,71,32,111,110,32,84,32,123,97,125]
def LG:List Lx.Tok:=[⟨5,[123],0⟩,⟨5,[46,46,46],1⟩,⟨1,[70],4⟩,⟨5,[125],5⟩,⟨1,[102,114,97,103,109,101,110,116],7⟩,⟨1,[70],16⟩,⟨1,[111,110],18⟩,⟨1,[84],21⟩,⟨5,[123],23⟩,⟨5,[46,46,46],24⟩,⟨1,[71],27⟩,⟨5,[125],28⟩,⟨1,[102,114,97,103,109,101,110,116],30⟩,⟨1,[71],39⟩,⟨1,[111,110],41⟩,⟨1,[84],44⟩,⟨5,[123],46⟩,⟨1,[97],47⟩,⟨5,[125],48⟩,⟨0,[],49⟩]
theorem KH:Lx.lex Ft=.ok LG:=by
 simp (decide:=true) [Ft,Lx.lex,Lx.lexGo,Lx.gap,Lx.token,LG,Lx.isBlank,Lx.bom,Lx.isLetter,Lx.isDigit,Lx.isWord,Lx.number,Lx.hd,Lx.digits,Lx.numFrac,Lx.numExp,Lx.numEnd,Lx.quotes3,Lx.dots3,Lx.signs]
theorem IL:Rd.begin_ Ft=⟨LG,0,0,0⟩:=by unfold Rd.begin_;rw[KH]
def Hw:List UInt8:=[102,114,97,103,109,101,110,116,32,70,32,111,110,32,84,32,123,46,46,46,70,125]
def Ki:List Lx.Tok:=[⟨1,[102,114,97,103,109,101,110,116],0⟩,⟨1,[70],9⟩,⟨1,[111,110],11⟩,⟨1,[84],14⟩,⟨5,[123],16⟩,⟨5,[46,46,46],17⟩,⟨1,[70],20⟩,⟨5,[125],21⟩,⟨0,[],22⟩]
theorem J7:Lx.lex Hw=.ok Ki:=by
 simp (decide:=true) [Hw,Lx.lex,Lx.lexGo,Lx.gap,Lx.token,Ki,Lx.isBlank,Lx.bom,Lx.isLetter,Lx.isDigit,Lx.isWord,Lx.number,Lx.hd,Lx.digits,Lx.numFrac,Lx.numExp,Lx.numEnd,Lx.quotes3,Lx.dots3,Lx.signs]
theorem II:Rd.begin_ Hw=⟨Ki,0,0,0⟩:=by unfold Rd.begin_;rw[J7]
def I9:List Qr.Op:=[⟨1,[],[],[],[.mk 2 [] [70] [] [] [] 1],0⟩]
def JH:List Qr.Fr:=[⟨[70],[84],[],[.mk 2 [] [71] [] [] [] 24],7⟩,⟨[71],[84],[],[.mk 1 [] [97] [] [] [] 47],30⟩]
def I0:List Qr.Fr:=[⟨[70],[84],[],[.mk 2 [] [70] [] [] [] 17],0⟩]
theorem E5:(Qr.parse Ft).1.err=0∧(Qr.parse Ft).2=(I9,JH):=by
 unfold Qr.parse;rw[IL];exact⟨rfl,rfl⟩
theorem El:(Qr.parse Hw).1.err=0∧(Qr.parse Hw).2=([],I0):=by
 unfold Qr.parse;rw[II];exact⟨rfl,rfl⟩
namespace Nq
def aO1:List It:=[⟨[],0,[([70],1)]⟩]
def aF1:List It:=[⟨[70],7,[([71],24)]⟩,⟨[71],30,[]⟩]
def aF2:List It:=[⟨[70],0,[([70],17)]⟩]
theorem a_reach:reach aF1 [([70],1)]=[[70],[71]]:=by kernel_rfl
theorem a_prob1:Cp.sorted (problems aO1 aF1)=[]:=by kernel_rfl
theorem a_prob2:Cp.sorted (problems [] aF2)=[(151,0),(155,0),(156,0)]:=by kernel_rfl
end Nq
end Go.Proofs.YtedeapbonbbacaaGreatDoor
