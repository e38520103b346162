/-
  Few of package rubriclaw09, walked: what it lets by is small. Documents' texts, what is asked of them, and how much is put at most (plain). Documents that are the same but for places (plain).
-/
import Derived.Test.YtefjgpkpplkkgaaGreatDoorZo24
import Derived.Test.YtefjgpkpplkkgaaGreatDoorZo5
open Go.Lib renaming hid → QA
open List renaming length_cons → QO, mem_of_getElem? → ZE, getElem?_map → ZK, getElem?_eq_getElem → ZL
open Nat renaming le_refl → QM, zero_le → ZX
namespace Go.Proofs.YtefjgpkpplkkgaaGreatDoor
set_option maxRecDepth 100000
set_option linter.unusedSimpArgs false
set_option linter.unusedVariables false
open Go Go.RowKit
namespace Dq
def smV (x:Var):Prop:=x.name.length≤200∧x.type.length≤300∧x.dflt.vals≤400∧x.dflt.cost≤3300*400
def smS (d:List Dir) (s:List Sel):Prop:=(cntD d≤400∧∀x∈d,smD x)∧(Sel.cntl s≤400∧∀x∈s,x.sm)
def smO (x:Op):Prop:=(x.vars.length≤100∧∀y∈x.vars,smV y)∧x.name.length≤200∧smS x.dirs x.sels
def smF (x:Fr):Prop:=x.name.length≤200∧x.on.length≤200∧smS x.dirs x.sels
def Doc.sm (x:Doc):Prop:=(x.ops.length≤100∧∀y∈x.ops,smO y)∧(x.frags.length≤100∧∀y∈x.frags,smF y)
end Dq
set_option maxHeartbeats 8000000 in
theorem Fp (x:Dq.Doc) (hfit:x.fits) (a1 a2:Option Addr) (c1 c2:Nat) (w:World) (hR:Reads w (λ_=>True) x.d [.slice a1 x.ops.length c1,.slice a2 x.frags.length c2]) :
  Calls Tryz.prog 18 #[.agg #[.slice a1 x.ops.length c1,.slice a2 x.frags.length c2]] w (λr w'=>∃b:Bool,r=.returned (.bool b)∧Below w.heap.size w w'∧(b=true→x.sm)):=by
 obtain⟨x1,x2,x3,x4,ex,a4,be⟩:=Dq.Doc.opened hR;obtain⟨rfl,rfl,rfl,rfl⟩:a1=x1∧c1=x3∧a2=x2∧c2=x4:=by simpa [and_assoc] using ex
 clear ex hR;obtain⟨⟨bR,a0⟩,bE,bc⟩:=hfit;unfold maxLen at bR bE;obtain⟨wb,ag⟩:∃q,q=w.alloc (.cells #[.slice a1 x.ops.length c1,.slice a2 x.frags.length c2] 43):=⟨_,rfl⟩
 have aO:Below w.heap.size w wb:=by rw[ag];exact (Below.refl _ _).alloc (QM _) _
 obtain⟨w1,ae⟩:∃q,q=wb.alloc (.cells #[.int .i64 400] 3):=⟨_,rfl⟩
 have ai:Below w.heap.size w w1:=by rw[ae];exact aO.alloc aO.size _
 have a3:wb.heap.size=w.heap.size+1:=by rw[ag];simp
 have b1:w1.heap.size=w.heap.size+2:=by rw[ae];simp[a3]
 have a8:w1.heap[w.heap.size+1]?=some (.cells #[.int .i64 400] 3 (0,0)):=by rw[ae,← a3];exact AC _ _
 have a6:w1.heap[w.heap.size]?=some (.cells #[.slice a1 x.ops.length c1,.slice a2 x.frags.length c2] 43 (0,0)):=by rw[ae,Lib.alloc_old _ _ _ (by omega),ag];exact AC _ _
 obtain⟨g,ar⟩:∃g,g=w.heap.size+1:=⟨_,rfl⟩
 have aL:AE w (λ_=>True) w1 (λk=>k≠g):=⟨ai.size,λk hk _=>⟨by omega,ai.block k hk⟩⟩
 have bA:=QA (a4.to aL);have bh:=QA (be.to aL);have cb:=QA ai;have bg:=QA a6;have HG:Hid (BU g 400 w1 w1):=QA ⟨But.refl _ _,by omega,by rw[ar];exact a8⟩;have aQ:=QA (ae.trans (by rw[ag]));have bs:=QA a0;have bN:=QA bc;have E:Hid (∀(b:Bool) (L:Int) (w':World),BU g L w1 w'→Below w.heap.size w w'):=QA (λb L w' X=>GA ai X (by omega));have aW:=QA ar;clear a4 be aL ai a6 a8 ae ag aO a0 bc;by_cases h20:100<x.ops.length
 ·have br:decide ((100:Int)<(x.ops.length:Int))=true:=decide_eq_true (by omega);clear ar;go_enter Tryz.func18,Tryz.ntmps18;go_wp2_with fail;go_ret;exact⟨false,rfl,by rw[← aQ.out];exact E.out false 400 _ HG.out,λh=>by cases h⟩
 have br:decide ((100:Int)<(x.ops.length:Int))=false:=decide_eq_false (by omega);by_cases h21:100<x.frags.length
 ·have bu:decide ((100:Int)<(x.frags.length:Int))=true:=decide_eq_true (by omega);clear ar;go_enter Tryz.func18,Tryz.ntmps18;go_wp2_with fail;go_ret;exact⟨false,rfl,by rw[← aQ.out];exact E.out false 400 _ HG.out,λh=>by cases h⟩
 have bu:decide ((100:Int)<(x.frags.length:Int))=false:=decide_eq_false (by omega);clear ar;go_enter Tryz.func18,Tryz.ntmps18;go_wp2_with fail;rw[← aQ.out];have aE:g≠w.heap.size:=by have:=aW.out;omega
 have aV:g=w.heap.size+1:=aW.out;rw[← aV];have cd:w1.heap.size=g+1:=by omega
 clear aV
 go_loopg [23] (x.ops.length+1) (λk i wr=>∃(j:Nat) (Y:Int),k=x.ops.length+1-j∧j≤x.ops.length∧i=.int .i64 j∧0≤Y∧Y≤400∧(∀y∈x.ops.take j,Dq.smO y)∧BU g Y w1 wr)
 case atStart=>exact⟨0,400,rfl,ZX _,rfl,by omega,by omega,by simp,HG.out⟩
 case round =>
  obtain⟨j,Y,hk,hj,rfl,W,T,V,X⟩:=hrel;have HK:=QA hk;have ac:=QA V;have M:=QA X;have av:=X.but.size;have au:Hid (wr.heap[w.heap.size]?=_):=QA ((X.but.block w.heap.size (by omega) (λe=>aE e.symm)).trans bg.out);clear hk V X;by_cases hjl:j<x.ops.length
  ·have e6:decide (j<x.ops.length)=true:=decide_eq_true hjl;obtain⟨p,hp⟩:∃z,x.ops[j]?=some z:=⟨x.ops[j],ZL hjl⟩
   have HP:=QA hp;have G:=QA (bs.out p (ZE hp));obtain⟨F,o,cs,ha,D,C,J,A,hd⟩:=bA.out.el j p.d (by rw[ZK,hp];rfl);obtain⟨s1,s2,s3,u1,u2,u3,rfl,bn,aP,aH⟩:=Dq.Op.opened hd;have k0:wr.cell? ⟨F,o+j*6,none⟩=_:=(M.out.but.cell (p:=⟨F,o+j*6,none⟩) C D).trans (A 0 _ rfl);have k1:wr.cell? ⟨F,o+j*6+1,none⟩=_:=(M.out.but.cell (p:=⟨F,o+j*6+1,none⟩) C D).trans (A 1 _ rfl);have k2:wr.cell? ⟨F,o+j*6+2,none⟩=_:=(M.out.but.cell (p:=⟨F,o+j*6+2,none⟩) C D).trans (A 2 _ rfl);have k3:wr.cell? ⟨F,o+j*6+3,none⟩=_:=(M.out.but.cell (p:=⟨F,o+j*6+3,none⟩) C D).trans (A 3 _ rfl);have k4:wr.cell? ⟨F,o+j*6+4,none⟩=_:=(M.out.but.cell (p:=⟨F,o+j*6+4,none⟩) C D).trans (A 4 _ rfl);have k5:wr.cell? ⟨F,o+j*6+5,none⟩=_:=(M.out.but.cell (p:=⟨F,o+j*6+5,none⟩) C D).trans (A 5 _ rfl);subst ha;obtain⟨wn,H⟩:∃q,q=wr.alloc (.cells #[.int .i64 p.kind,.string ⟨p.name.toArray⟩,.slice s1 p.vars.length u1,.slice s2 p.dirs.length u2,.slice s3 p.sels.length u3,.int .i64 p.at_] 96):=⟨_,rfl⟩
   have aT:wn.heap[g]?=some (.cells #[.int .i64 Y] 3 (0,0)):=by rw[H,Lib.alloc_old _ _ _ (by omega)];exact M.out.cell
   have ao:wn.heap[wr.heap.size]?=some (.cells #[.int .i64 p.kind,.string ⟨p.name.toArray⟩,.slice s1 p.vars.length u1,.slice s2 p.dirs.length u2,.slice s3 p.sels.length u3,.int .i64 p.at_] 96 (0,0)):=by rw[H];exact AC _ _
   have bC:wn.heap.size=wr.heap.size+1:=by rw[H];simp
   have Q:g≠wr.heap.size:=by omega
   have aw:BU g Y w1 wn:=M.out.of_below (by rw[H];exact (Below.refl _ _).alloc (QM _) _);have aI:=QA ao;have I:=QA aw;have N:=QA H;clear hp J A H aT ao aw hd;have bo:p.name.length≤9223372036854775807:=G.out.2.1;have bG:p.vars.length≤9223372036854775807:=G.out.2.2.1.1;by_cases h22:100<p.vars.length
   ·have bL:decide ((100:Int)<(p.vars.length:Int))=true:=decide_eq_true (by omega);clear h22;go_wp2_with fail;go_ret;exact⟨false,rfl,by rw[← N.out];exact E.out false _ _ I.out,λh=>by cases h⟩
   have bL:decide ((100:Int)<(p.vars.length:Int))=false:=decide_eq_false (by omega);by_cases h23:200<p.name.length
   ·have bp:decide ((200:Int)<(p.name.length:Int))=true:=decide_eq_true (by omega);clear h23;go_wp2_with fail;go_ret;exact⟨false,rfl,by rw[← N.out];exact E.out false _ _ I.out,λh=>by cases h⟩
   have bp:decide ((200:Int)<(p.name.length:Int))=false:=decide_eq_false (by omega);have B:=QA (DN p.dirs G.out.2.2.2.1.2 s2 u2 wn g Y W T (by have:=G.out.2.2.2.1.1;unfold maxLen at this;omega) I.out.cell (aP.to I.out.stands));rw[N.out]at B;go_wp2_with fail;refine B.out.mono ?_;rw[← N.out];rintro r w2 ⟨b,L2,rfl,ho2,hl2,hle⟩;have aj:=QA hle;have O:=QA (I.out.trans ho2);have R:Hid (w2.heap[wr.heap.size]?=_):=QA ((ho2.but.block wr.heap.size (by omega) (λe=>Q e.symm)).trans aI.out);have bM:=ho2.but.size;clear hle ho2 B k0 k1 k2 k3 k4 k5;cases b
   ·go_wp2_with fail;go_ret;exact⟨false,rfl,E.out false _ _ O.out,λh=>by cases h⟩
   obtain⟨ad,al,U⟩:=aj.out (by trivial);have aJ:=QA ad;have aS:=QA U;clear ad U;have z4:=AA R.out 4 (.slice s3 p.sels.length u3) rfl;have B:=QA (λdp=>DW _ p.sels (Nat.lt_succ_self _) G.out.2.2.2.2.2 s3 u3 w2 g L2 dp al hl2 (by have:=G.out.2.2.2.2.1;unfold maxLen at this;omega) O.out.cell (aH.to O.out.stands));go_wp2_with fail;refine (B.out _).mono ?_;rintro r w3 ⟨b,L3,rfl,ho3,hl3,hle⟩;have ak:=QA hle;have P:=QA (O.out.trans ho3);have aq:Hid (w3.heap[wr.heap.size]?=_):=QA ((ho3.but.block wr.heap.size (by omega) (λe=>Q e.symm)).trans R.out);have aX:=ho3.but.size;clear hle ho3 B z4;cases b
   ·go_wp2_with fail;go_ret;exact⟨false,rfl,E.out false _ _ P.out,λh=>by cases h⟩
   obtain⟨aR,an,S⟩:=ak.out (by trivial);have aN:Hid (Dq.smS p.dirs p.sels):=QA ⟨⟨by have:=aJ.out;omega,aS.out⟩,by omega,S⟩;clear aR S;have z2:=AA aq.out 2 (.slice s1 p.vars.length u1) rfl;have a9:=QA (bn.to P.out.stands);go_wp2_with fail;clear z2;obtain⟨wq,Z⟩:∃q,q=w3:=⟨_,rfl⟩
   rw[← Z];rw[← Z]at P a9 aq aX;clear Z;have bD:Hid (BU g L3 wq wq):=QA ⟨But.refl _ _,by omega,P.out.cell⟩
   go_loopg [52] (p.vars.length+1) (λk i wr=>∃(j:Nat),k=p.vars.length+1-j∧j≤p.vars.length∧i=.int .i64 j∧(∀y∈p.vars.take j,Dq.smV y)∧BU g L3 wq wr)
   case atStart=>exact⟨0,rfl,ZX _,rfl,by simp,bD.out⟩
   case round =>
    obtain⟨i,hk,hi,rfl,V,X⟩:=hrel;have bJ:=QA hk;have aF:=QA V;have K:=QA X;have ay:=QA (P.out.trans X);have bT:=X.but.size;clear hk V X;by_cases hil:i<p.vars.length
    ·have e7:decide (i<p.vars.length)=true:=decide_eq_true hil;obtain⟨q,hq⟩:∃z,p.vars[i]?=some z:=⟨p.vars[i],ZL hil⟩
     have HQ:=QA hq;have aU:=QA (G.out.2.2.1.2 q (ZE hq));obtain⟨F,o,cs,ha,D,C,J,A,hd⟩:=a9.out.el i q.d (by rw[ZK,hq];rfl);obtain⟨r1,r2,v1,v2,rfl,bK⟩:=Dq.Var.opened hd;have k0:wr.cell? ⟨F,o+i*9,none⟩=_:=(K.out.but.cell (p:=⟨F,o+i*9,none⟩) C D).trans (A 0 _ rfl);have k1:wr.cell? ⟨F,o+i*9+1,none⟩=_:=(K.out.but.cell (p:=⟨F,o+i*9+1,none⟩) C D).trans (A 1 _ rfl);have k2:wr.cell? ⟨F,o+i*9+2,none⟩=_:=(K.out.but.cell (p:=⟨F,o+i*9+2,none⟩) C D).trans (A 2 _ rfl);have k3:wr.cell? ⟨F,o+i*9+3,none⟩=_:=(K.out.but.cell (p:=⟨F,o+i*9+3,none⟩) C D).trans (A 3 _ rfl);have k4:wr.cell? ⟨F,o+i*9+4,none⟩=_:=(K.out.but.cell (p:=⟨F,o+i*9+4,none⟩) C D).trans (A 4 _ rfl);have k5:wr.cell? ⟨F,o+i*9+5,none⟩=_:=(K.out.but.cell (p:=⟨F,o+i*9+5,none⟩) C D).trans (A 5 _ rfl);have k6:wr.cell? ⟨F,o+i*9+6,none⟩=_:=(K.out.but.cell (p:=⟨F,o+i*9+6,none⟩) C D).trans (A 6 _ rfl);have k7:wr.cell? ⟨F,o+i*9+7,none⟩=_:=(K.out.but.cell (p:=⟨F,o+i*9+7,none⟩) C D).trans (A 7 _ rfl);have k8:wr.cell? ⟨F,o+i*9+8,none⟩=_:=(K.out.but.cell (p:=⟨F,o+i*9+8,none⟩) C D).trans (A 8 _ rfl);subst ha;obtain⟨a7,am⟩:∃z,z=wr.alloc (.cells #[.string ⟨q.name.toArray⟩,.string ⟨q.type.toArray⟩,.bool q.has,.int .i64 q.dflt.kind,.string ⟨q.dflt.text.toArray⟩,.slice r1 q.dflt.items.length v1,.slice r2 q.dflt.fields.length v2,.int .i64 q.dflt.at_,.int .i64 q.at_] 100):=⟨_,rfl⟩
     have ah:Below wr.heap.size wr a7:=by rw[am];exact (Below.refl _ _).alloc (QM _) _
     have ab:=QA ah;have aa:=QA am;have ce:q.name.length≤9223372036854775807:=aU.out.1;have ad:q.type.length≤9223372036854775807:=aU.out.2.1;have B:=QA (Ji q.dflt aU.out.2.2 r1 r2 v1 v2 a7 ((bK.to (K.out.of_below ah).stands).to (AE.sub _ (λ_ _ _=>trivial))));rw[aa.out]at B;unfold AN at B;clear hq J A hd am ah;by_cases h24:200<q.name.length
     ·have bv:decide ((200:Int)<(q.name.length:Int))=true:=decide_eq_true (by omega);clear h24;go_wp2_with fail;go_ret;exact⟨false,rfl,by rw[← aa.out];exact E.out false _ _ (ay.out.of_below ab.out),λh=>by cases h⟩
     have bv:decide ((200:Int)<(q.name.length:Int))=false:=decide_eq_false (by omega);by_cases h25:300<q.type.length
     ·have bz:decide ((300:Int)<(q.type.length:Int))=true:=decide_eq_true (by omega);clear h25;go_wp2_with fail;go_ret;exact⟨false,rfl,by rw[← aa.out];exact E.out false _ _ (ay.out.of_below ab.out),λh=>by cases h⟩
     have bz:decide ((300:Int)<(q.type.length:Int))=false:=decide_eq_false (by omega);go_wp2_with fail;refine B.out.mono ?_;rw[← aa.out];rintro r w5 ⟨b,rfl,hb5,hle⟩;have aY:=QA (ab.out.trans (hb5.mono ab.out.size));have aZ:=QA hle;clear hb5 hle B k0 k1 k2 k3 k4 k5 k6 k7 k8;cases b
     ·go_wp2_with fail;go_ret;exact⟨false,rfl,E.out false _ _ (ay.out.of_below aY.out),λh=>by cases h⟩
     have bQ:Hid (Dq.smV q):=QA ⟨by omega,by omega,(aZ.out (by trivial)).1,(aZ.out (by trivial)).2⟩;go_wp2_with fail;go_roundg (p.vars.length+1-(i+1))
     case measure=>rw[bJ.out];omega
     case rel=>exact⟨i+1,rfl,hil,by go_num,CL HQ.out aF.out bQ.out,K.out.of_below aY.out⟩
    ·have e7:decide (i<p.vars.length)=false:=decide_eq_false hil;have bq:Hid (Dq.smO p):=by
      have:=aF.out;rw[List.take_of_length_le (by omega)]at this;exact QA ⟨⟨by omega,this⟩,by omega,aN.out⟩
     go_wp2_with fail;go_roundg (x.ops.length+1-(j+1))
     case measure=>rw[HK.out];omega
     case rel=>exact⟨j+1,L3,rfl,hjl,by go_num,an,hl3,CL HP.out ac.out bq.out,ay.out⟩
  ·have e6:decide (j<x.ops.length)=false:=decide_eq_false hjl;have a5:Hid (∀y∈x.ops,Dq.smO y):=by
    have:=ac.out;rw[List.take_of_length_le (by omega)]at this;exact QA this
   have y1:=AA au.out 1 (.slice a2 x.frags.length c2) rfl;have aC:=QA (bh.out.to M.out.stands);clear ac;go_wp2_with fail;clear y1;obtain⟨wq,Z⟩:∃q,q=wr:=⟨_,rfl⟩
   rw[← Z];rw[← Z]at au M aC av;clear Z;have bP:=au
   go_loopg [77] (x.frags.length+1) (λk i wr=>∃(j:Nat) (Y:Int),k=x.frags.length+1-j∧j≤x.frags.length∧i=.int .i64 j∧0≤Y∧Y≤400∧(∀y∈x.frags.take j,Dq.smF y)∧BU g Y w1 wr)
   case atStart=>exact⟨0,Y,rfl,ZX _,rfl,W,T,by simp,M.out⟩
   case round =>
    clear au HK M hj e6 hjl av aC bP W T;obtain⟨j,Y,hk,hj,rfl,W,T,V,X⟩:=hrel;have HK:=QA hk;have ac:=QA V;have M:=QA X;have av:=X.but.size;have au:Hid (wr.heap[w.heap.size]?=_):=QA ((X.but.block w.heap.size (by omega) (λe=>aE e.symm)).trans bg.out);clear hk V X;by_cases hjl:j<x.frags.length
    ·have e6:decide (j<x.frags.length)=true:=decide_eq_true hjl;obtain⟨p,hp⟩:∃z,x.frags[j]?=some z:=⟨x.frags[j],ZL hjl⟩
     have HP:=QA hp;have G:=QA (bN.out p (ZE hp));obtain⟨F,o,cs,ha,D,C,J,A,hd⟩:=bh.out.el j p.d (by rw[ZK,hp];rfl);obtain⟨s2,s3,u2,u3,rfl,aP,aH⟩:=Dq.Fr.opened hd;have k0:wr.cell? ⟨F,o+j*5,none⟩=_:=(M.out.but.cell (p:=⟨F,o+j*5,none⟩) C D).trans (A 0 _ rfl);have k1:wr.cell? ⟨F,o+j*5+1,none⟩=_:=(M.out.but.cell (p:=⟨F,o+j*5+1,none⟩) C D).trans (A 1 _ rfl);have k2:wr.cell? ⟨F,o+j*5+2,none⟩=_:=(M.out.but.cell (p:=⟨F,o+j*5+2,none⟩) C D).trans (A 2 _ rfl);have k3:wr.cell? ⟨F,o+j*5+3,none⟩=_:=(M.out.but.cell (p:=⟨F,o+j*5+3,none⟩) C D).trans (A 3 _ rfl);have k4:wr.cell? ⟨F,o+j*5+4,none⟩=_:=(M.out.but.cell (p:=⟨F,o+j*5+4,none⟩) C D).trans (A 4 _ rfl);subst ha;obtain⟨wn,H⟩:∃q,q=wr.alloc (.cells #[.string ⟨p.name.toArray⟩,.string ⟨p.on.toArray⟩,.slice s2 p.dirs.length u2,.slice s3 p.sels.length u3,.int .i64 p.at_] 102):=⟨_,rfl⟩
     have aT:wn.heap[g]?=some (.cells #[.int .i64 Y] 3 (0,0)):=by rw[H,Lib.alloc_old _ _ _ (by omega)];exact M.out.cell
     have ao:wn.heap[wr.heap.size]?=some (.cells #[.string ⟨p.name.toArray⟩,.string ⟨p.on.toArray⟩,.slice s2 p.dirs.length u2,.slice s3 p.sels.length u3,.int .i64 p.at_] 102 (0,0)):=by rw[H];exact AC _ _
     have bC:wn.heap.size=wr.heap.size+1:=by rw[H];simp
     have Q:g≠wr.heap.size:=by omega
     have aw:BU g Y w1 wn:=M.out.of_below (by rw[H];exact (Below.refl _ _).alloc (QM _) _);have aI:=QA ao;have I:=QA aw;have N:=QA H;clear hp J A H aT ao aw hd;have bo:p.name.length≤9223372036854775807:=G.out.1;have bG:p.on.length≤9223372036854775807:=G.out.2.1;by_cases h26:200<p.name.length
     ·have bB:decide ((200:Int)<(p.name.length:Int))=true:=decide_eq_true (by omega);clear h26;go_wp2_with fail;go_ret;exact⟨false,rfl,by rw[← N.out];exact E.out false _ _ I.out,λh=>by cases h⟩
     have bB:decide ((200:Int)<(p.name.length:Int))=false:=decide_eq_false (by omega);by_cases h27:200<p.on.length
     ·have bw:decide ((200:Int)<(p.on.length:Int))=true:=decide_eq_true (by omega);clear h27;go_wp2_with fail;go_ret;exact⟨false,rfl,by rw[← N.out];exact E.out false _ _ I.out,λh=>by cases h⟩
     have bw:decide ((200:Int)<(p.on.length:Int))=false:=decide_eq_false (by omega);have B:=QA (DN p.dirs G.out.2.2.1.2 s2 u2 wn g Y W T (by have:=G.out.2.2.1.1;unfold maxLen at this;omega) I.out.cell (aP.to I.out.stands));rw[N.out]at B;go_wp2_with fail;refine B.out.mono ?_;rw[← N.out];rintro r w2 ⟨b,L2,rfl,ho2,hl2,hle⟩;have aj:=QA hle;have O:=QA (I.out.trans ho2);have R:Hid (w2.heap[wr.heap.size]?=_):=QA ((ho2.but.block wr.heap.size (by omega) (λe=>Q e.symm)).trans aI.out);have bM:=ho2.but.size;clear hle ho2 B k0 k1 k2 k3 k4;cases b
     ·go_wp2_with fail;go_ret;exact⟨false,rfl,E.out false _ _ O.out,λh=>by cases h⟩
     obtain⟨ad,al,U⟩:=aj.out (by trivial);have aJ:=QA ad;have aS:=QA U;clear ad U;have z3:=AA R.out 3 (.slice s3 p.sels.length u3) rfl;have B:=QA (λdp=>DW _ p.sels (Nat.lt_succ_self _) G.out.2.2.2.2 s3 u3 w2 g L2 dp al hl2 (by have:=G.out.2.2.2.1;unfold maxLen at this;omega) O.out.cell (aH.to O.out.stands));go_wp2_with fail;refine (B.out _).mono ?_;rintro r w3 ⟨b,L3,rfl,ho3,hl3,hle⟩;have ak:=QA hle;have P:=QA (O.out.trans ho3);have aq:Hid (w3.heap[wr.heap.size]?=_):=QA ((ho3.but.block wr.heap.size (by omega) (λe=>Q e.symm)).trans R.out);have aX:=ho3.but.size;clear hle ho3 B z3;cases b
     ·go_wp2_with fail;go_ret;exact⟨false,rfl,E.out false _ _ P.out,λh=>by cases h⟩
     obtain⟨aR,an,S⟩:=ak.out (by trivial);have aN:Hid (Dq.smS p.dirs p.sels):=QA ⟨⟨by have:=aJ.out;omega,aS.out⟩,by omega,S⟩;clear aR S;have bI:Hid (Dq.smF p):=QA ⟨by omega,by omega,aN.out⟩;go_wp2_with fail;go_roundg (x.frags.length+1-(j+1))
     case measure=>rw[HK.out];omega
     case rel=>exact⟨j+1,L3,rfl,hjl,by go_num,an,hl3,CL HP.out ac.out bI.out,P.out⟩
    ·have e6:decide (j<x.frags.length)=false:=decide_eq_false hjl;have aM:Hid (∀y∈x.frags,Dq.smF y):=by
      have:=ac.out;rw[List.take_of_length_le (by omega)]at this;exact QA this
     go_wp2_with fail;go_ret;exact⟨true,rfl,E.out true _ _ M.out,λ_=>⟨⟨by omega,a5.out⟩,by omega,aM.out⟩⟩
end Go.Proofs.YtefjgpkpplkkgaaGreatDoor
namespace Go.Proofs.YtefjgpkpplkkgaaGreatDoor
set_option linter.unusedSimpArgs false
set_option linter.unusedVariables false
namespace Dq
def kindOk (t:List UInt8):Bool:=decide ((Vl.parseType t).1.err=0)&&decide ((Vl.parseType t).2=t)
def zero:Vl.Z:=.mk 0 [] [] [] 0
def gvG (has:Bool) (v:Vl.Z):Bool:=if has then v.good 0&&v.nov else v.same zero
def gvT (has:Bool) (v:Vl.Z):List UInt8:=if has then [32,61,32]++v.str else []
def argG (at_:Nat) (x:Vl.ZA):Bool:=(Lx.isName x.name&&x.v.good 0)&&decide (at_+x.v.dep≤16)
def argsG (at_:Nat) (l:List Vl.ZA):Bool:=l.all (argG at_)
def argsT (l:List Vl.ZA):List UInt8:=if l.length=0 then [] else [40]++(Vl.joinT Vl.ZA.str [44,32] true l++[41])
def argsC (l:List Vl.ZA):Nat:=2+Vl.sumC Vl.ZA.cost 2 l
def dirG (at_:Nat) (x:Dir):Bool:=Lx.isName x.name&&argsG at_ x.args
def dirT (x:Dir):List UInt8:=[32,64]++(x.name++argsT x.args)
def dirC (x:Dir):Nat:=2+x.name.length+argsC x.args
def dirsG (at_:Nat) (l:List Dir):Bool:=l.all (dirG at_)
def dirsT (l:List Dir):List UInt8:=l.flatMap dirT
def dirsC (l:List Dir):Nat:=Vl.sumC dirC 0 l
def nmT (n:List UInt8) (pre post:List UInt8):List UInt8:=if n=[] then [] else pre++(n++post)
def nmG (n:List UInt8):Bool:=decide (n=[])||Lx.isName n
mutual
def Sel.good:Nat→Sel→Bool
 | at_,.mk k al n a d s _ =>
  if k=1 then nmG al&&(Lx.isName n&&(argsG at_ a&&(dirsG at_ d&&(decide (s.length=0)||(decide (at_<16)&&Sel.goods (at_+1) s)))))
  else if k=2 then (Lx.isName n&&((decide (n≠[111,110])&&decide (s.length=0))&&dirsG at_ d))&&(decide (al=[])&&decide (a.length=0))
  else if k=3 then (nmG n&&(dirsG at_ d&&((decide (0<s.length)&&decide (at_<16))&&Sel.goods (at_+1) s)))&&(decide (al=[])&&decide (a.length=0))
  else false
def Sel.goods:Nat→List Sel→Bool
 | _,[]=>true
 | at_,x::r=>Sel.good at_ x&&Sel.goods at_ r
end
mutual
def Sel.txt:Sel→List UInt8
 | .mk k al n a d s _ =>
  if k=1 then nmT al [] [58,32]++(n++(argsT a++(dirsT d++(if s.length=0 then [] else [32]++([123]++(Sel.txts true s++[125]))))))
  else if k=2 then [46,46,46]++(n++dirsT d)
  else if k=3 then [46,46,46]++(nmT n [32,111,110,32] []++(dirsT d++([32]++([123]++(Sel.txts true s++[125])))))
  else []
def Sel.txts:Bool→List Sel→List UInt8
 | _,[]=>[]
 | b,x::r=>(if b then [] else [32])++(Sel.txt x++Sel.txts false r)
end
mutual
def Sel.cost:Sel→Nat
 | .mk _ al n a d s _=>30+al.length+n.length+argsC a+dirsC d+Sel.costs s
def Sel.costs:List Sel→Nat
 | []=>0
 | x::r=>1+Sel.cost x+Sel.costs r
end
theorem Sel.goods_all (at_:Nat):∀l:List Sel,Sel.goods at_ l=l.all (Sel.good at_)
 | []=>by rw[Sel.goods];rfl
 | x::r=>by rw[Sel.goods,Sel.goods_all at_ r,List.all_cons]
theorem Sel.txts_join:∀(b:Bool) (l:List Sel),Sel.txts b l=Vl.joinT Sel.txt [32] b l
 | _,[]=>by rw[Sel.txts,Vl.joinT]
 | b,x::r=>by rw[Sel.txts,Sel.txts_join false r,Vl.joinT]
theorem Sel.costs_sum:∀l:List Sel,Sel.costs l=Vl.sumC Sel.cost 1 l
 | []=>by rw[Sel.costs,Vl.sumC]
 | x::r=>by rw[Sel.costs,Sel.costs_sum r,Vl.sumC]
def selsG (at_:Nat) (l:List Sel):Bool:=(decide (0<l.length)&&decide (at_<16))&&Sel.goods (at_+1) l
def selsT (l:List Sel):List UInt8:=[123]++(Sel.txts true l++[125])
theorem Sel.good_eq (at_:Nat) (x:Sel):x.good at_ =
  if x.kind=1 then nmG x.nick&&(Lx.isName x.name&&(argsG at_ x.args&&(dirsG at_ x.dirs&&(decide (x.sels.length=0)||(decide (at_<16)&&Sel.goods (at_+1) x.sels)))))
  else if x.kind=2 then (Lx.isName x.name&&((decide (x.name≠[111,110])&&decide (x.sels.length=0))&&dirsG at_ x.dirs))&&(decide (x.nick=[])&&decide (x.args.length=0))
  else if x.kind=3 then (nmG x.name&&(dirsG at_ x.dirs&&selsG at_ x.sels))&&(decide (x.nick=[])&&decide (x.args.length=0))
  else false:=by cases x;rw[Sel.good];rfl
theorem Sel.txt_eq (x:Sel):x.txt =
  if x.kind=1 then nmT x.nick [] [58,32]++(x.name++(argsT x.args++(dirsT x.dirs++(if x.sels.length=0 then [] else [32]++selsT x.sels))))
  else if x.kind=2 then [46,46,46]++(x.name++dirsT x.dirs)
  else if x.kind=3 then [46,46,46]++(nmT x.name [32,111,110,32] []++(dirsT x.dirs++([32]++selsT x.sels)))
  else []:=by cases x;rw[Sel.txt];rfl
theorem Sel.cost_eq (x:Sel):x.cost=30+x.nick.length+x.name.length+argsC x.args+dirsC x.dirs+Sel.costs x.sels:=by cases x;rw[Sel.cost];rfl
def varG (x:Var):Bool:=Lx.isName x.name&&(kindOk x.type&&gvG x.has x.dflt)
def varT (x:Var):List UInt8:=[36]++(x.name++([58,32]++(x.type++gvT x.has x.dflt)))
def varC (x:Var):Nat:=6+x.name.length+x.type.length+x.dflt.cost
def word (k:Int):List UInt8:=if k=1 then [113,117,101,114,121] else if k=2 then [109,117,116,97,116,105,111,110] else [115,117,98,115,99,114,105,112,116,105,111,110]
def varsT (l:List Var):List UInt8:=if l.length=0 then [] else [40]++(Vl.joinT varT [44,32] true l++[41])
def opG (x:Op):Bool:=(decide (1≤x.kind)&&decide (x.kind≤3))&&(nmG x.name&&(x.vars.all varG&&(dirsG 0 x.dirs&&selsG 0 x.sels)))
def opT (x:Op):List UInt8:=word x.kind++(nmT x.name [32] []++(varsT x.vars++(dirsT x.dirs++([32]++(selsT x.sels++[10])))))
def opC (x:Op):Nat:=20+x.name.length+Vl.sumC varC 2 x.vars+dirsC x.dirs+Sel.costs x.sels
def frG (x:Fr):Bool:=(Lx.isName x.name&&decide (x.name≠[111,110]))&&(Lx.isName x.on&&(dirsG 0 x.dirs&&selsG 0 x.sels))
def frT (x:Fr):List UInt8:=[102,114,97,103,109,101,110,116,32]++(x.name++([32,111,110,32]++(x.on++(dirsT x.dirs++([32]++(selsT x.sels++[10]))))))
def frC (x:Fr):Nat:=20+x.name.length+x.on.length+dirsC x.dirs+Sel.costs x.sels
def Doc.good (x:Doc):Bool:=decide (0<x.ops.length+x.frags.length)&&(x.ops.all opG&&x.frags.all frG)
def Doc.txt (x:Doc):List UInt8:=x.ops.flatMap opT++x.frags.flatMap frT
def Doc.cost (x:Doc):Nat:=Vl.sumC opC 0 x.ops+Vl.sumC frC 0 x.frags
-- How much that is of a small document.
theorem sum_le {α:Type} {f:α→Nat} {m B:Nat}:∀{l:List α},(∀x∈l,m+f x≤B)→Vl.sumC f m l≤l.length*B
 | [],_=>ZX _
 | x::r,h=>by
  have A:=h x (by simp);have o:=sum_le (l:=r) (λy hy=>h y (by simp[hy]));rw[Vl.sumC,QO,Nat.succ_mul];omega
theorem G4 {l:List Vl.ZA} (h:∀x∈l,smA x):argsC l≤2+l.length*1330000:=by
 have:=sum_le (l:=l) (f:=Vl.ZA.cost) (m:=2) (B:=1330000) (λx hx=>by
  obtain⟨A,-,o⟩:=h x hx;rw[Vl.ZA.cost_eq];omega)
 unfold argsC;omega
theorem dirsC_le:∀{l:List Dir},(∀x∈l,smD x)→dirsC l≤cntD l*1330000
 | [],_=>ZX _
 | x::r,h=>by
  have o:=dirsC_le (l:=r) (λy hy=>h y (by simp[hy]));obtain⟨D,A⟩:=h x (by simp);have C:=G4 A;unfold dirsC at o ⊢;have B:dirC x=2+x.name.length+argsC x.args:=rfl;rw[Vl.sumC,cntD,Nat.add_mul,Nat.add_mul];omega
mutual
theorem M7:∀x:Sel,x.sm→1+x.cost≤x.cnt*1330000
 | .mk k al n a d s p,h=>by
  rw[Sel.sm]at h;obtain⟨o,C,D,B,A⟩:=h;have F:=G4 D;have E:=dirsC_le B;have G:=selsC_le s A;rw[Sel.cost,Sel.cnt,Nat.add_mul,Nat.add_mul,Nat.add_mul];omega
theorem selsC_le:∀l:List Sel,Sel.sml l→Sel.costs l≤Sel.cntl l*1330000
 | [],_=>ZX _
 | x::r,h=>by
  rw[Sel.sml]at h;have o:=M7 x h.1;have C:=selsC_le r h.2;rw[Sel.costs,Sel.cntl,Nat.add_mul];omega
end
theorem O8 {x:Op} (h:smO x):opC x≤1300000000:=by
 obtain⟨⟨C,F⟩,N,⟨E,D⟩,A,o⟩:=h;have g1:=sum_le (l:=x.vars) (f:=varC) (m:=2) (B:=1330000) (λy hy=>by
  obtain⟨H,I,-,M⟩:=F y hy;unfold varC;omega)
 have g2:=dirsC_le D;have G:=selsC_le x.sels (Sel.sml_iff.2 o);have J:=Nat.mul_le_mul_right 1330000 C;have L:=Nat.mul_le_mul_right 1330000 E;have K:=Nat.mul_le_mul_right 1330000 A;unfold opC;omega
theorem Ov {x:Fr} (h:smF x):frC x≤1300000000:=by
 obtain⟨E,G,⟨C,B⟩,A,o⟩:=h;have g2:=dirsC_le B;have D:=selsC_le x.sels (Sel.sml_iff.2 o);have H:=Nat.mul_le_mul_right 1330000 C;have F:=Nat.mul_le_mul_right 1330000 A;unfold frC;omega
theorem docC_le {x:Doc} (h:x.sm):Vl.sumC opC 0 x.ops≤130000000000∧Vl.sumC frC 0 x.frags≤130000000000:=by
 obtain⟨⟨o,C⟩,D,A⟩:=h;have g1:=sum_le (l:=x.ops) (f:=opC) (m:=0) (B:=1300000000) (λy hy=>by have:=O8 (C y hy);omega);have g2:=sum_le (l:=x.frags) (f:=frC) (m:=0) (B:=1300000000) (λy hy=>by have:=Ov (A y hy);omega);have E:=Nat.mul_le_mul_right 1300000000 o;have F:=Nat.mul_le_mul_right 1300000000 D;omega
end Dq
namespace Dq
def sameL {α:Type} (f:α→α→Bool):List α→List α→Bool
 | [],[]=>true
 | x::r,y::q=>f x y&&sameL f r q
 | [],_::_=>false
 | _::_,[]=>false
theorem BP {α:Type} {f:α→α→Bool}:∀{a b:List α},sameL f a b=true→a.length=b.length
 | [],[],_=>rfl
 | x::r,y::q,h=>by
  rw[sameL,Bool.and_eq_true]at h;rw[QO,QO,BP h.2]
 | [],_::_,h=>by cases h
 | _::_,[],h=>by cases h
theorem sameL_ne {α:Type} {f:α→α→Bool} {a b:List α} (h:¬a.length=b.length):sameL f a b=false:=by
 cases hs:sameL f a b with
 | false=>rfl
 | true=>exact absurd (BP hs) h
theorem drop_at {α:Type} {l:List α} {j:Nat} {x:α} (h:l[j]?=some x):l.drop j=x::l.drop (j+1):=by
 have o:j<l.length:=by
  rcases Nat.lt_or_ge j l.length with h'|h'
  ·exact h'
  ·rw[List.getElem?_eq_none h']at h;cases h
 rw[List.drop_eq_getElem_cons o];rw[ZL o]at h;rw[Option.some.inj h]
def Dir.same (x y:Dir):Bool:=decide (x.name=y.name)&&sameL Vl.ZA.same x.args y.args
mutual
def Sel.same:Sel→Sel→Bool
 | .mk k al n a d s _,.mk k' al' n' a' d' s' _=>decide (k=k')&&(decide (al=al')&&(decide (n=n')&&(sameL Vl.ZA.same a a'&&(sameL Dir.same d d'&&Sel.sames s s'))))
def Sel.sames:List Sel→List Sel→Bool
 | [],[]=>true
 | x::r,y::q=>Sel.same x y&&Sel.sames r q
 | [],_::_=>false
 | _::_,[]=>false
end
theorem Sel.sames_l:∀a b:List Sel,Sel.sames a b=sameL Sel.same a b
 | [],[]=>by rw[Sel.sames,sameL]
 | x::r,y::q=>by rw[Sel.sames,sameL,Sel.sames_l r q]
 | [],_::_=>by rw[Sel.sames,sameL]
 | _::_,[]=>by rw[Sel.sames,sameL]
theorem Sel.same_eq (x y:Sel):x.same y=(decide (x.kind=y.kind)&&(decide (x.nick=y.nick)&&(decide (x.name=y.name)&&(sameL Vl.ZA.same x.args y.args&&(sameL Dir.same x.dirs y.dirs&&(sameL Sel.same x.sels y.sels)))))):=by
 cases x;cases y;rw[Sel.same,Sel.sames_l];rfl
def Var.same (x y:Var):Bool:=decide (x.name=y.name)&&(decide (x.type=y.type)&&(decide (x.has=y.has)&&(x.dflt.same y.dflt)))
def Op.same (x y:Op):Bool:=decide (x.kind=y.kind)&&(decide (x.name=y.name)&&(sameL Dir.same x.dirs y.dirs&&(sameL Sel.same x.sels y.sels&&(sameL Var.same x.vars y.vars))))
def Fr.same (x y:Fr):Bool:=decide (x.name=y.name)&&(decide (x.on=y.on)&&(sameL Dir.same x.dirs y.dirs&&(sameL Sel.same x.sels y.sels)))
def Doc.same (x y:Doc):Bool:=sameL Op.same x.ops y.ops&&(sameL Fr.same x.frags y.frags)
theorem Do {α:Type} {f:α→Nat} {m:Nat} (h:∀x,1≤m+f x):∀l:List α,l.length≤Vl.sumC f m l
 | []=>ZX _
 | x::r=>by
  have:=Do h r;have:=h x;rw[Vl.sumC,QO];omega
theorem argsC_ln (l:List Vl.ZA):l.length≤argsC l:=by
 have:=Do (f:=Vl.ZA.cost) (m:=2) (λx=>by omega) l;unfold argsC;omega
theorem dirsC_ln (l:List Dir):l.length≤dirsC l:=Do (λx=>by have:dirC x=2+x.name.length+argsC x.args:=rfl;omega) l
theorem selsC_ln (l:List Sel):l.length≤Sel.costs l:=by
 rw[Sel.costs_sum];exact Do (λx=>by omega) l
theorem varsC_ln (l:List Var):l.length≤Vl.sumC varC 2 l:=Do (λx=>by omega) l
end Dq
end Go.Proofs.YtefjgpkpplkkgaaGreatDoor
