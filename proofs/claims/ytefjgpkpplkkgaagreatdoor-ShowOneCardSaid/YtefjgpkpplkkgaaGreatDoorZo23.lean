/-
  The shower of values: inner; value at any depth; Show, walked. 'Show', walked. The writer of documents: many things with something Bq; values, types, walked. A value that came in.
-/
import Derived.Test.YtefjgpkpplkkgaaGreatDoorZo22
import Derived.Test.YtefjgpkpplkkgaaGreatDoorZo21
import Derived.Test.YtefjgpkpplkkgaaGreatDoorZo14
import Derived.Test.YtefjgpkpplkkgaaGreatDoorZo6
open Go.Lib renaming hid → QA
open List renaming drop_succ_cons → QE, take_succ_cons → QF, drop_zero → QL, take_zero → QN, length_cons → QO, length_nil → QS, length_append → QU, mem_of_getElem? → ZE, drop_eq_getElem_cons → ZG, drop_eq_nil_of_le → ZH, getElem?_map → ZK, getElem?_eq_getElem → ZL
open Nat renaming le_refl → QM, reduceAdd → ZB, zero_le → ZX
namespace Go.Proofs.YtefjgpkpplkkgaaGreatDoor
set_option maxRecDepth 100000
set_option maxHeartbeats 4000000
set_option linter.unusedSimpArgs false
set_option linter.unusedVariables false
open Go Go.RowKit
theorem Gm (t:List UInt8):(⟨t.toArray⟩:ByteArray)++⟨#[58,32]⟩=⟨(t++[58,32]).toArray⟩:=by
 have h:((⟨t.toArray⟩:ByteArray)++⟨#[58,32]⟩).data.toList=t++[58,32]:=by simp
 have:∀a:ByteArray,a=⟨a.data.toList.toArray⟩:=λa=>by cases a;simp
 rw[this (_++_),h]
theorem Al (t:List UInt8) (s:Vl.Sh):(Vl.put t s).out.length=s.out.length+t.length:=by rw[Vl.put_out,QU]
theorem O7 (N:Nat) (VAL:Nm N) (z:Vl.Z) (hN:z.n≤N+1) (hk:z.kind=8) (deep:Nat) (hdp:deep≤16) (w0:World) (b:Nat) (s:Vl.Sh) (a1 a2:Option Addr) (n1 n2:Nat) (w:World) (hE:Env w0) (h3:3≤w0.heap.size) (hS:SW w0 b s w) (hlen:s.out.length+z.cost≤1000000000)
  (hR:Reads w0 (λ_=>True) z.d (AN z a1 a2 n1 n2).toList) :
  Calls Tryz.prog 91 #[.pointer (some ⟨b,0,none⟩),.agg (AN z a1 a2 n1 n2),.int .i64 deep] w (λe w'=>e=.returned (.tuple #[])∧SW w0 b (z.inner deep s) w'∧OK8 b w w'):=by
 unfold AN at hR ⊢;have aw:=Vl.Z.cost_eq z;have be:=Vl.Z.n_eq z;have bi:=Vl.Z.ns_len z.items;have bc:=Vl.ZA.ns_len z.fields;have bn:=Vl.Z.n_cost z;obtain⟨x1,x2,x3,x4,ex,a6,aR⟩:=BR hR;obtain⟨rfl,rfl,rfl,rfl⟩:a1=x1∧n1=x3∧a2=x2∧n2=x4:=by simpa [and_assoc] using ex
 obtain⟨w1,ab⟩:∃v,v=w.alloc (.cells #[.int .i64 z.kind,.string ⟨z.text.toArray⟩,.slice a1 z.items.length n1,.slice a2 z.fields.length n2,.int .i64 z.at_] 25):=⟨_,rfl⟩
 have aT:SW w0 b s w1:=by rw[ab];exact hS.alloc _
 have a3:w1.heap[w.heap.size]?=some (.cells #[.int .i64 z.kind,.string ⟨z.text.toArray⟩,.slice a1 z.items.length n1,.slice a2 z.fields.length n2,.int .i64 z.at_] 25 (0,0)):=by rw[ab];exact AC _ _
 have a4:w.heap.size≠b:=by have:=hS.sh.lt;omega
 have aS:OK8 b w w1:=by rw[ab];exact Ab ((Below.refl _ _).alloc (QM _) _)
 have HE:=QA hE;have P:=QA VAL;have br:=QA ab;have bl:=QA aT;have bu:=QA a3;have bd:=QA aS;have bB:=QA a6;have bx:=QA aR;have bz:Hid (∀x∈z.items,x.n≤N):=QA (λx M=>by have:=Vl.Z.ns_mem M;omega);have bw:Hid (∀x∈z.fields,x.v.n≤N):=QA (λx M=>by have:=Vl.ZA.ns_mem M;have:=Vl.ZA.n_eq x;omega);have e9:(z.kind==9)=false:=by rw[beq_eq_false_iff_ne];omega
 have bf:Hid (Vl.opn z.kind=[91]):=QA (by rw[hk];rfl);have a5:Hid (Vl.shut z.kind=[93]):=QA (by rw[hk];rfl);have bH:bt ⟨#[91,93]⟩ 0=91:=rfl;have bL:bt ⟨#[91,93]⟩ 1=93:=rfl;have bQ:z.items.length≤1000000000:=by omega
 have bR:z.fields.length≤1000000000:=by omega
 obtain⟨IC,aV⟩:∃q,q=Vl.Z.costs z.items:=⟨_,rfl⟩
 obtain⟨FC,aP⟩:∃q,q=Vl.ZA.costs z.fields:=⟨_,rfl⟩
 have bC:s.out.length+12+IC+FC≤1000000000:=by omega
 have bh:=QA aV;have bb:=QA aP;clear hE VAL ab aT a3 aS hR hS ex a6 aR hN hk aw be bi bc bn hlen aV aP;go_enter Tryz.func91,Tryz.ntmps91;go_wp2_with fail;rw[← br.out];refine AF [5] (by kernel_rfl) (by kernel_rfl) ?_;simp only[Ae,QF,QN,QE,QL,Nat.sub_zero,Nat.reduceSub,ZB]
 repeat (go_big_quiet_step (fail))
 refine wpQuiet_nil ?_;rintro _ ⟨nq,rfl⟩;go_wp2_with fail;refine ((bl.out.drewN nq).byte 91 (by omega)).mono ?_;rintro r wE ⟨rfl,ae,hk2⟩;have aH:=QA ae;have a7:Hid (OK8 b w wE):=QA (bd.out.trans hk2);have aO:=QA (AD (w:=w1.drewN nq) hk2 bu.out a4 (by decide));have aC:=Al [91] s;obtain⟨s1,av⟩:∃q,q=Vl.put [91] s:=⟨_,rfl⟩
 rw[← av]at aH aC;simp only[QO,QS]at aC;have aY:Hid (z.inner deep s=Vl.put [93] (Vl.ZA.shows deep true z.fields (Vl.Z.shows deep true z.items s1))):=QA (by unfold Vl.Z.inner;rw[bf.out,a5.out,av]);clear ae hk2 av;go_wp2;refine wpQuiet_nil ?_;rintro _ ⟨nr,rfl⟩;obtain⟨wG,U⟩:∃q,q=wE.drewN nr:=⟨_,rfl⟩
 have aU:Hid (SW w0 b s1 wG):=QA (by rw[U];exact aH.out.drewN nr);have aX:Hid (OK8 b w wG):=QA (by rw[U];exact a7.out);have ar:Hid (wG.heap[w.heap.size]?=some (.cells #[.int .i64 z.kind,.string ⟨z.text.toArray⟩,.slice a1 z.items.length n1,.slice a2 z.fields.length n2,.int .i64 z.at_] 25 (0,0))):=QA (by rw[U];exact aO.out);rw[← U];clear U aH a7 aO;have z2:=AA ar.out 2 (.slice a1 z.items.length n1) rfl;go_wp2_with fail
 go_loopg [23] (z.items.length+1) (λk i wr=>∃(j:Nat) (F:Vl.Sh),k=z.items.length+1-j∧j≤z.items.length∧i=.int .i64 j∧SW w0 b F wr∧OK8 b wG wr∧Vl.Z.shows deep true z.items s1=Vl.Z.shows deep (decide (j=0)) (z.items.drop j) F∧F.out.length+Vl.Z.costs (z.items.drop j)+FC+4≤1000000000)
 case atStart=>exact⟨0,s1,rfl,ZX _,rfl,aU.out,Lib.OthersKept.refl _ _ _,rfl,by rw[QL,← bh.out];omega⟩
 case round =>
  obtain⟨j,F,hk,hj,rfl,T,X,V,an⟩:=hrel;have HK:=QA hk;have B:=QA T;have O:=QA X;have Q:=QA V;clear hk T X V z2;by_cases hjl:j<z.items.length
  ·have e1:decide (j<z.items.length)=true:=decide_eq_true hjl;obtain⟨x,M⟩:∃q,z.items[j]?=some q:=⟨z.items[j],ZL hjl⟩
   have L:z.items.drop j=x::z.items.drop (j+1):=by rw[ZG hjl];rw[ZL hjl]at M;rw[Option.some.inj M]
   have D:Hid (Vl.Z.shows deep true z.items s1=Vl.Z.shows deep false (z.items.drop (j+1)) (Vl.Z.show deep x (Vl.sep (decide (j=0)) F))):=QA (by rw[Q.out,L,Vl.Z.shows_cons]);rw[L,Vl.Z.costs]at an;have ac:=QA (bz.out x (ZE M));have bA:=Vl.Z.cost_eq x;obtain⟨g,o,cs,ha,-,E,hlen,A,hd⟩:=bB.out.el j x.d (by rw[ZK,M];rfl);obtain⟨c1,c2,Y,S,rfl,-,-⟩:=BR hd;subst ha;have k0:wr.cell? ⟨g,o+j*5,none⟩=_:=(B.out.bel.cell (p:=⟨g,o+j*5,none⟩) E).trans (A 0 _ rfl);have k1:wr.cell? ⟨g,o+j*5+1,none⟩=_:=(B.out.bel.cell (p:=⟨g,o+j*5+1,none⟩) E).trans (A 1 _ rfl);have k2:wr.cell? ⟨g,o+j*5+2,none⟩=_:=(B.out.bel.cell (p:=⟨g,o+j*5+2,none⟩) E).trans (A 2 _ rfl);have k3:wr.cell? ⟨g,o+j*5+3,none⟩=_:=(B.out.bel.cell (p:=⟨g,o+j*5+3,none⟩) E).trans (A 3 _ rfl);have k4:wr.cell? ⟨g,o+j*5+4,none⟩=_:=(B.out.bel.cell (p:=⟨g,o+j*5+4,none⟩) E).trans (A 4 _ rfl);have af:=QA hd;obtain⟨wb,G⟩:∃q,q=wr.alloc (.cells #[.int .i64 x.kind,.string ⟨x.text.toArray⟩,.slice c1 x.items.length Y,.slice c2 x.fields.length S,.int .i64 x.at_] 25):=⟨_,rfl⟩
   have ad:Hid (SW w0 b F wb):=QA (by rw[G];exact B.out.alloc _);have aa:Hid (OK8 b wG wb):=QA (by rw[G];exact O.out.trans (Ab ((Below.refl _ _).alloc (QM _) _)));have al:Hid (wb.heap[wr.heap.size]?=some (.cells #[.int .i64 x.kind,.string ⟨x.text.toArray⟩,.slice c1 x.items.length Y,.slice c2 x.fields.length S,.int .i64 x.at_] 25 (0,0))):=QA (by rw[G];exact AC _ _);have W:=QA G;have H:wr.heap.size≠b:=by have:=B.out.sh.lt;omega
   clear M L hlen A hd G;by_cases hj0:j=0
   ·have I:decide (j=0)=true:=decide_eq_true hj0;rw[I]at D;have e2:decide ((0:Int)<(j:Int))=false:=decide_eq_false (by omega);have aF:decide (0<j)=false:=decide_eq_false (by omega);clear hj0 I;go_wp2_with fail;rw[← W.out];refine (P.out x ac.out deep hdp w0 b F c1 c2 Y S wb HE.out h3 ad.out (by omega) af.out).mono ?_;rintro r w4 ⟨rfl,hs4,hk4⟩;have az:=QA hs4;have aD:Hid (OK8 b wG w4):=QA (aa.out.trans hk4);clear hs4 hk4;have K:=Vl.Z.show_le deep x F;go_wp2_with fail;go_roundg (z.items.length+1-(j+1))
    case measure=>rw[HK.out];omega
    case rel=>exact⟨j+1,_,rfl,hjl,by go_num,az.out,aD.out,by rw[D.out];rfl,by omega⟩
   ·have I:decide (j=0)=false:=decide_eq_false hj0;rw[I]at D;have e2:decide ((0:Int)<(j:Int))=true:=decide_eq_true (by omega);have aF:decide (0<j)=true:=decide_eq_true (by omega);clear hj0 I;go_wp2_with fail;rw[← W.out];refine (ad.out.str [44,32] (by simp only[QO,QS];omega)).mono ?_;rintro r w3 ⟨⟨m,rfl⟩,hs3,hk3⟩;have aE:=QA hs3;have aB:=QA (aa.out.trans hk3);have aq:=QA (AD hk3 al.out H (by decide));obtain⟨y0,y1,y2,y3,y4⟩:=BD aq.out rfl rfl rfl rfl rfl;clear hs3 hk3;go_wp2_with fail;refine (P.out x ac.out deep hdp w0 b (Vl.put [44,32] F) c1 c2 Y S w3 HE.out h3 aE.out (by rw[Al];simp only[QO,QS];omega) af.out).mono ?_;rintro r w4 ⟨rfl,hs4,hk4⟩;have az:=QA hs4;have aD:Hid (OK8 b wG w4):=QA (aB.out.trans hk4);clear hs4 hk4;have K:=Vl.Z.show_le deep x (Vl.put [44,32] F);rw[Al]at K;simp only[QO,QS]at K;go_wp2_with fail;go_roundg (z.items.length+1-(j+1))
    case measure=>rw[HK.out];omega
    case rel=>exact⟨j+1,_,rfl,hjl,by go_num,az.out,aD.out,by rw[D.out];rfl,by omega⟩
  ·have e1:decide (j<z.items.length)=false:=decide_eq_false hjl;have a0:Hid (Vl.Z.shows deep true z.items s1=F):=QA (by rw[Q.out,ZH (by omega),Vl.Z.shows_nil]);have aW:F.out.length+FC+4≤1000000000:=by omega
   have bo:=QA (AD O.out ar.out a4 (by decide));have z3:=AA bo.out 3 (.slice a2 z.fields.length n2) rfl;have bv:=QA (aX.out.trans O.out);obtain⟨s2,ae⟩:∃q,q=F:=⟨_,rfl⟩
   rw[← ae]at a0 aW B;obtain⟨wF,bq⟩:∃q,q=wr:=⟨_,rfl⟩
   subst bq;clear ae O Q an hj hjl HK aC bC;go_wp2_with fail
   go_loopg [42] (z.fields.length+1) (λk i wr=>∃(j:Nat) (F:Vl.Sh),k=z.fields.length+1-j∧j≤z.fields.length∧i=.int .i64 j∧SW w0 b F wr∧OK8 b wF wr∧Vl.ZA.shows deep true z.fields s2=Vl.ZA.shows deep (decide (j=0)) (z.fields.drop j) F∧F.out.length+Vl.ZA.costs (z.fields.drop j)+4≤1000000000)
   case atStart=>exact⟨0,s2,rfl,ZX _,rfl,B.out,Lib.OthersKept.refl _ _ _,rfl,by rw[QL,← bb.out];omega⟩
   case round =>
    obtain⟨j,F,hk,hj,rfl,T,X,V,an⟩:=hrel;have HK:=QA hk;clear B;have B:=QA T;have O:=QA X;have Q:=QA V;clear hk T X V z3;by_cases hjl:j<z.fields.length
    ·have e1:decide (j<z.fields.length)=true:=decide_eq_true hjl;obtain⟨x,M⟩:∃q,z.fields[j]?=some q:=⟨z.fields[j],ZL hjl⟩
     have L:z.fields.drop j=x::z.fields.drop (j+1):=by rw[ZG hjl];rw[ZL hjl]at M;rw[Option.some.inj M]
     have D:Hid (Vl.ZA.shows deep true z.fields s2=Vl.ZA.shows deep false (z.fields.drop (j+1)) (Vl.ZA.show deep x (Vl.sep (decide (j=0)) F))):=QA (by rw[Q.out,L,Vl.ZA.shows_cons]);rw[L,Vl.ZA.costs]at an;have ac:=QA (bw.out x (ZE M));have bA:=Vl.ZA.cost_eq x;obtain⟨g,o,cs,ha,-,E,hlen,A,hd⟩:=bx.out.el j x.d (by rw[ZK,M];rfl);obtain⟨c1,c2,Y,S,rfl,aQ⟩:=BZ hd;subst ha;have k0:wr.cell? ⟨g,o+j*7,none⟩=_:=(B.out.bel.cell (p:=⟨g,o+j*7,none⟩) E).trans (A 0 _ rfl);have k1:wr.cell? ⟨g,o+j*7+1,none⟩=_:=(B.out.bel.cell (p:=⟨g,o+j*7+1,none⟩) E).trans (A 1 _ rfl);have k2:wr.cell? ⟨g,o+j*7+2,none⟩=_:=(B.out.bel.cell (p:=⟨g,o+j*7+2,none⟩) E).trans (A 2 _ rfl);have k3:wr.cell? ⟨g,o+j*7+3,none⟩=_:=(B.out.bel.cell (p:=⟨g,o+j*7+3,none⟩) E).trans (A 3 _ rfl);have k4:wr.cell? ⟨g,o+j*7+4,none⟩=_:=(B.out.bel.cell (p:=⟨g,o+j*7+4,none⟩) E).trans (A 4 _ rfl);have k5:wr.cell? ⟨g,o+j*7+5,none⟩=_:=(B.out.bel.cell (p:=⟨g,o+j*7+5,none⟩) E).trans (A 5 _ rfl);have k6:wr.cell? ⟨g,o+j*7+6,none⟩=_:=(B.out.bel.cell (p:=⟨g,o+j*7+6,none⟩) E).trans (A 6 _ rfl);have af:=QA aQ;obtain⟨wb,G⟩:∃q,q=wr.alloc (.cells #[.string ⟨x.name.toArray⟩,.int .i64 x.v.kind,.string ⟨x.v.text.toArray⟩,.slice c1 x.v.items.length Y,.slice c2 x.v.fields.length S,.int .i64 x.v.at_,.int .i64 x.at_] 72):=⟨_,rfl⟩
     have ad:Hid (SW w0 b F wb):=QA (by rw[G];exact B.out.alloc _);have aa:Hid (OK8 b wF wb):=QA (by rw[G];exact O.out.trans (Ab ((Below.refl _ _).alloc (QM _) _)));have al:Hid (wb.heap[wr.heap.size]?=some (.cells #[.string ⟨x.name.toArray⟩,.int .i64 x.v.kind,.string ⟨x.v.text.toArray⟩,.slice c1 x.v.items.length Y,.slice c2 x.v.fields.length S,.int .i64 x.v.at_,.int .i64 x.at_] 72 (0,0))):=QA (by rw[G];exact AC _ _);have W:=QA G;have H:wr.heap.size≠b:=by have:=B.out.sh.lt;omega
     clear M L hlen A hd aQ G;by_cases hj0:j=0
     ·have I:decide (j=0)=true:=decide_eq_true hj0;rw[I]at D;have e2:decide ((0:Int)<(j:Int))=false:=decide_eq_false (by omega);have aF:decide (0<j)=false:=decide_eq_false (by omega);clear hj0 I;go_wp2_with fail;rw[← W.out];refine (BG ⟨x.name.toArray⟩ wb (by show x.name.length≤_;omega)).mono ?_;rintro r w5' ⟨rfl,hw5⟩;obtain rfl:=hw5.symm;clear hw5;go_wp2_with fail;have J:=ad.out.need (Lx.isName x.name);refine J.mono ?_;clear J;rintro r w5 ⟨rfl,hs5,hk5⟩;have ay:=QA hs5;have ax:=QA (aa.out.trans hk5);have R:=QA (AD hk5 al.out H (by decide));clear hs5 hk5;obtain⟨y0,y1,y2,y3,y4,y5,y6⟩:=BW R.out rfl rfl rfl rfl rfl rfl rfl;go_wp2_with fail;refine AF [6] (by kernel_rfl) (by kernel_rfl) ?_;simp only[Ae,QF,QN,QE,QL,Nat.sub_zero,Nat.reduceSub,ZB]
      repeat (go_big_quiet_step (fail))
      refine wpQuiet_nil ?_;rintro _ ⟨nq,rfl⟩;go_wp2_with fail;rw[Gm x.name];refine ((ay.out.drewN nq).str (x.name++[58,32]) (by rw[Vl.need_out];simp only[QU,QO,QS];omega)).mono ?_;rintro r w6 ⟨⟨m2',rfl⟩,hs6,hk6⟩;have aA:=QA hs6;have aJ:Hid (OK8 b wF w6):=QA (ax.out.trans hk6);have C:=QA (AD (w:=w5.drewN nq) hk6 R.out H (by decide));clear hs6 hk6 y0 y1 y2 y3 y4 y5 y6;go_wp2;refine wpQuiet_nil ?_;rintro _ ⟨nr,rfl⟩;have y0:(w6.drewN nr).cell? ⟨wr.heap.size,0,none⟩=_:=AA C.out 0 (.string ⟨x.name.toArray⟩) rfl;have y1:(w6.drewN nr).cell? ⟨wr.heap.size,1,none⟩=_:=AA C.out 1 (.int .i64 x.v.kind) rfl;have y2:(w6.drewN nr).cell? ⟨wr.heap.size,2,none⟩=_:=AA C.out 2 (.string ⟨x.v.text.toArray⟩) rfl;have y3:(w6.drewN nr).cell? ⟨wr.heap.size,3,none⟩=_:=AA C.out 3 (.slice c1 x.v.items.length Y) rfl;have y4:(w6.drewN nr).cell? ⟨wr.heap.size,4,none⟩=_:=AA C.out 4 (.slice c2 x.v.fields.length S) rfl;have y5:(w6.drewN nr).cell? ⟨wr.heap.size,5,none⟩=_:=AA C.out 5 (.int .i64 x.v.at_) rfl;have y6:(w6.drewN nr).cell? ⟨wr.heap.size,6,none⟩=_:=AA C.out 6 (.int .i64 x.at_) rfl;go_wp2_with fail;refine (P.out x.v ac.out deep hdp w0 b (Vl.put (x.name++[58,32]) (Vl.need (Lx.isName x.name) F)) c1 c2 Y S (w6.drewN nr) HE.out h3 (aA.out.drewN nr) (by rw[Al,Vl.need_out];simp only[QU,QO,QS];omega) af.out).mono ?_;rintro r w7 ⟨rfl,hs7,hk7⟩;have aI:=QA hs7;have aG:Hid (OK8 b wF w7):=QA (aJ.out.trans hk7);clear hs7 hk7 y0 y1 y2 y3 y4 y5 y6;have K:=Vl.Z.show_le deep x.v (Vl.put (x.name++[58,32]) (Vl.need (Lx.isName x.name) F));rw[Al,Vl.need_out]at K;simp only[QU,QO,QS]at K;go_wp2_with fail;go_roundg (z.fields.length+1-(j+1))
      case measure=>rw[HK.out];omega
      case rel=>exact⟨j+1,_,rfl,hjl,by go_num,aI.out,aG.out,by rw[D.out,Vl.ZA.show_eq];rfl,by omega⟩
     ·have I:decide (j=0)=false:=decide_eq_false hj0;rw[I]at D;have e2:decide ((0:Int)<(j:Int))=true:=decide_eq_true (by omega);have aF:decide (0<j)=true:=decide_eq_true (by omega);clear hj0 I;go_wp2_with fail;rw[← W.out];refine (ad.out.str [44,32] (by simp only[QO,QS];omega)).mono ?_;rintro r w3 ⟨⟨m,rfl⟩,hs3,hk3⟩;have aE:=QA hs3;have aB:=QA (aa.out.trans hk3);have aq:=QA (AD hk3 al.out H (by decide));obtain⟨y0,y1,y2,y3,y4,y5,y6⟩:=BW aq.out rfl rfl rfl rfl rfl rfl rfl;clear hs3 hk3;go_wp2_with fail;refine (BG ⟨x.name.toArray⟩ w3 (by show x.name.length≤_;omega)).mono ?_;rintro r w5' ⟨rfl,hw5⟩;obtain rfl:=hw5.symm;clear hw5;go_wp2_with fail;have J:=aE.out.need (Lx.isName x.name);refine J.mono ?_;clear J;rintro r w5 ⟨rfl,hs5,hk5⟩;have ay:=QA hs5;have ax:=QA (aB.out.trans hk5);have R:=QA (AD hk5 aq.out H (by decide));clear hs5 hk5 y0 y1 y2 y3 y4 y5 y6;obtain⟨y0,y1,y2,y3,y4,y5,y6⟩:=BW R.out rfl rfl rfl rfl rfl rfl rfl;go_wp2_with fail;refine AF [6] (by kernel_rfl) (by kernel_rfl) ?_;simp only[Ae,QF,QN,QE,QL,Nat.sub_zero,Nat.reduceSub,ZB]
      repeat (go_big_quiet_step (fail))
      refine wpQuiet_nil ?_;rintro _ ⟨nq,rfl⟩;go_wp2_with fail;rw[Gm x.name];refine ((ay.out.drewN nq).str (x.name++[58,32]) (by rw[Vl.need_out];simp only[QU,QO,QS,Al];omega)).mono ?_;rintro r w6 ⟨⟨m2',rfl⟩,hs6,hk6⟩;have aA:=QA hs6;have aJ:Hid (OK8 b wF w6):=QA (ax.out.trans hk6);have C:=QA (AD (w:=w5.drewN nq) hk6 R.out H (by decide));clear hs6 hk6 y0 y1 y2 y3 y4 y5 y6;go_wp2;refine wpQuiet_nil ?_;rintro _ ⟨nr,rfl⟩;have y0:(w6.drewN nr).cell? ⟨wr.heap.size,0,none⟩=_:=AA C.out 0 (.string ⟨x.name.toArray⟩) rfl;have y1:(w6.drewN nr).cell? ⟨wr.heap.size,1,none⟩=_:=AA C.out 1 (.int .i64 x.v.kind) rfl;have y2:(w6.drewN nr).cell? ⟨wr.heap.size,2,none⟩=_:=AA C.out 2 (.string ⟨x.v.text.toArray⟩) rfl;have y3:(w6.drewN nr).cell? ⟨wr.heap.size,3,none⟩=_:=AA C.out 3 (.slice c1 x.v.items.length Y) rfl;have y4:(w6.drewN nr).cell? ⟨wr.heap.size,4,none⟩=_:=AA C.out 4 (.slice c2 x.v.fields.length S) rfl;have y5:(w6.drewN nr).cell? ⟨wr.heap.size,5,none⟩=_:=AA C.out 5 (.int .i64 x.v.at_) rfl;have y6:(w6.drewN nr).cell? ⟨wr.heap.size,6,none⟩=_:=AA C.out 6 (.int .i64 x.at_) rfl;go_wp2_with fail;refine (P.out x.v ac.out deep hdp w0 b (Vl.put (x.name++[58,32]) (Vl.need (Lx.isName x.name) (Vl.put [44,32] F))) c1 c2 Y S (w6.drewN nr) HE.out h3 (aA.out.drewN nr) (by rw[Al,Vl.need_out];simp only[QU,QO,QS,Al];omega) af.out).mono ?_;rintro r w7 ⟨rfl,hs7,hk7⟩;have aI:=QA hs7;have aG:Hid (OK8 b wF w7):=QA (aJ.out.trans hk7);clear hs7 hk7 y0 y1 y2 y3 y4 y5 y6;have K:=Vl.Z.show_le deep x.v (Vl.put (x.name++[58,32]) (Vl.need (Lx.isName x.name) (Vl.put [44,32] F)));rw[Al,Vl.need_out]at K;simp only[QU,QO,QS,Al]at K;go_wp2_with fail;go_roundg (z.fields.length+1-(j+1))
      case measure=>rw[HK.out];omega
      case rel=>exact⟨j+1,_,rfl,hjl,by go_num,aI.out,aG.out,by rw[D.out,Vl.ZA.show_eq];rfl,by omega⟩
    ·have e1:decide (j<z.fields.length)=false:=decide_eq_false hjl;have aZ:Hid (Vl.ZA.shows deep true z.fields s2=F):=QA (by rw[Q.out,ZH (by omega),Vl.ZA.shows_nil]);go_wp2_with fail;refine AF [5] (by kernel_rfl) (by kernel_rfl) ?_;simp only[Ae,QF,QN,QE,QL,Nat.sub_zero,Nat.reduceSub,ZB]
     repeat (go_big_quiet_step (fail))
     refine wpQuiet_nil ?_;rintro _ ⟨nq,rfl⟩;go_wp2_with fail;refine ((B.out.drewN nq).byte 93 (by omega)).mono ?_;rintro r w9 ⟨rfl,hs9,hk9⟩;have bj:=QA hs9;have bk:Hid (OK8 b w w9):=QA (bv.out.trans (O.out.trans hk9));clear hs9 hk9;go_wp2;refine wpQuiet_nil ?_;rintro _ ⟨nr,rfl⟩;go_wp2;go_end0;refine⟨rfl,?_,bk.out⟩;rw[aY.out,a0.out,aZ.out];exact bj.out.drewN nr
theorem PQ (N:Nat) (VAL:Nm N) (z:Vl.Z) (hN:z.n≤N+1) (hk:z.kind=9) (deep:Nat) (hdp:deep≤16) (w0:World) (b:Nat) (s:Vl.Sh) (a1 a2:Option Addr) (n1 n2:Nat) (w:World) (hE:Env w0) (h3:3≤w0.heap.size) (hS:SW w0 b s w) (hlen:s.out.length+z.cost≤1000000000)
  (hR:Reads w0 (λ_=>True) z.d (AN z a1 a2 n1 n2).toList) :
  Calls Tryz.prog 91 #[.pointer (some ⟨b,0,none⟩),.agg (AN z a1 a2 n1 n2),.int .i64 deep] w (λe w'=>e=.returned (.tuple #[])∧SW w0 b (z.inner deep s) w'∧OK8 b w w'):=by
 unfold AN at hR ⊢;have aw:=Vl.Z.cost_eq z;have be:=Vl.Z.n_eq z;have bi:=Vl.Z.ns_len z.items;have bc:=Vl.ZA.ns_len z.fields;have bn:=Vl.Z.n_cost z;obtain⟨x1,x2,x3,x4,ex,a6,aR⟩:=BR hR;obtain⟨rfl,rfl,rfl,rfl⟩:a1=x1∧n1=x3∧a2=x2∧n2=x4:=by simpa [and_assoc] using ex
 obtain⟨w1,ab⟩:∃v,v=w.alloc (.cells #[.int .i64 z.kind,.string ⟨z.text.toArray⟩,.slice a1 z.items.length n1,.slice a2 z.fields.length n2,.int .i64 z.at_] 25):=⟨_,rfl⟩
 have aT:SW w0 b s w1:=by rw[ab];exact hS.alloc _
 have a3:w1.heap[w.heap.size]?=some (.cells #[.int .i64 z.kind,.string ⟨z.text.toArray⟩,.slice a1 z.items.length n1,.slice a2 z.fields.length n2,.int .i64 z.at_] 25 (0,0)):=by rw[ab];exact AC _ _
 have a4:w.heap.size≠b:=by have:=hS.sh.lt;omega
 have aS:OK8 b w w1:=by rw[ab];exact Ab ((Below.refl _ _).alloc (QM _) _)
 have HE:=QA hE;have P:=QA VAL;have br:=QA ab;have bl:=QA aT;have bu:=QA a3;have bd:=QA aS;have bB:=QA a6;have bx:=QA aR;have bz:Hid (∀x∈z.items,x.n≤N):=QA (λx M=>by have:=Vl.Z.ns_mem M;omega);have bw:Hid (∀x∈z.fields,x.v.n≤N):=QA (λx M=>by have:=Vl.ZA.ns_mem M;have:=Vl.ZA.n_eq x;omega);have e9:(z.kind==9)=true:=by rw[beq_iff_eq];exact hk
 have bf:Hid (Vl.opn z.kind=[123]):=QA (by rw[hk];rfl);have a5:Hid (Vl.shut z.kind=[125]):=QA (by rw[hk];rfl);have bH:bt ⟨#[123,125]⟩ 0=123:=rfl;have bL:bt ⟨#[123,125]⟩ 1=125:=rfl;have bQ:z.items.length≤1000000000:=by omega
 have bR:z.fields.length≤1000000000:=by omega
 obtain⟨IC,aV⟩:∃q,q=Vl.Z.costs z.items:=⟨_,rfl⟩
 obtain⟨FC,aP⟩:∃q,q=Vl.ZA.costs z.fields:=⟨_,rfl⟩
 have bC:s.out.length+12+IC+FC≤1000000000:=by omega
 have bh:=QA aV;have bb:=QA aP;clear hE VAL ab aT a3 aS hR hS ex a6 aR hN hk aw be bi bc bn hlen aV aP;go_enter Tryz.func91,Tryz.ntmps91;go_wp2_with fail;rw[← br.out];refine AF [5] (by kernel_rfl) (by kernel_rfl) ?_;simp only[Ae,QF,QN,QE,QL,Nat.sub_zero,Nat.reduceSub,ZB]
 repeat (go_big_quiet_step (fail))
 refine wpQuiet_nil ?_;rintro _ ⟨nq,rfl⟩;go_wp2_with fail;refine ((bl.out.drewN nq).byte 123 (by omega)).mono ?_;rintro r wE ⟨rfl,ae,hk2⟩;have aH:=QA ae;have a7:Hid (OK8 b w wE):=QA (bd.out.trans hk2);have aO:=QA (AD (w:=w1.drewN nq) hk2 bu.out a4 (by decide));have aC:=Al [123] s;obtain⟨s1,av⟩:∃q,q=Vl.put [123] s:=⟨_,rfl⟩
 rw[← av]at aH aC;simp only[QO,QS]at aC;have aY:Hid (z.inner deep s=Vl.put [125] (Vl.ZA.shows deep true z.fields (Vl.Z.shows deep true z.items s1))):=QA (by unfold Vl.Z.inner;rw[bf.out,a5.out,av]);clear ae hk2 av;go_wp2;refine wpQuiet_nil ?_;rintro _ ⟨nr,rfl⟩;obtain⟨wG,U⟩:∃q,q=wE.drewN nr:=⟨_,rfl⟩
 have aU:Hid (SW w0 b s1 wG):=QA (by rw[U];exact aH.out.drewN nr);have aX:Hid (OK8 b w wG):=QA (by rw[U];exact a7.out);have ar:Hid (wG.heap[w.heap.size]?=some (.cells #[.int .i64 z.kind,.string ⟨z.text.toArray⟩,.slice a1 z.items.length n1,.slice a2 z.fields.length n2,.int .i64 z.at_] 25 (0,0))):=QA (by rw[U];exact aO.out);rw[← U];clear U aH a7 aO;have z2:=AA ar.out 2 (.slice a1 z.items.length n1) rfl;go_wp2_with fail
 go_loopg [23] (z.items.length+1) (λk i wr=>∃(j:Nat) (F:Vl.Sh),k=z.items.length+1-j∧j≤z.items.length∧i=.int .i64 j∧SW w0 b F wr∧OK8 b wG wr∧Vl.Z.shows deep true z.items s1=Vl.Z.shows deep (decide (j=0)) (z.items.drop j) F∧F.out.length+Vl.Z.costs (z.items.drop j)+FC+4≤1000000000)
 case atStart=>exact⟨0,s1,rfl,ZX _,rfl,aU.out,Lib.OthersKept.refl _ _ _,rfl,by rw[QL,← bh.out];omega⟩
 case round =>
  obtain⟨j,F,hk,hj,rfl,T,X,V,an⟩:=hrel;have HK:=QA hk;have B:=QA T;have O:=QA X;have Q:=QA V;clear hk T X V z2;by_cases hjl:j<z.items.length
  ·have e1:decide (j<z.items.length)=true:=decide_eq_true hjl;obtain⟨x,M⟩:∃q,z.items[j]?=some q:=⟨z.items[j],ZL hjl⟩
   have L:z.items.drop j=x::z.items.drop (j+1):=by rw[ZG hjl];rw[ZL hjl]at M;rw[Option.some.inj M]
   have D:Hid (Vl.Z.shows deep true z.items s1=Vl.Z.shows deep false (z.items.drop (j+1)) (Vl.Z.show deep x (Vl.sep (decide (j=0)) F))):=QA (by rw[Q.out,L,Vl.Z.shows_cons]);rw[L,Vl.Z.costs]at an;have ac:=QA (bz.out x (ZE M));have bA:=Vl.Z.cost_eq x;obtain⟨g,o,cs,ha,-,E,hlen,A,hd⟩:=bB.out.el j x.d (by rw[ZK,M];rfl);obtain⟨c1,c2,Y,S,rfl,-,-⟩:=BR hd;subst ha;have k0:wr.cell? ⟨g,o+j*5,none⟩=_:=(B.out.bel.cell (p:=⟨g,o+j*5,none⟩) E).trans (A 0 _ rfl);have k1:wr.cell? ⟨g,o+j*5+1,none⟩=_:=(B.out.bel.cell (p:=⟨g,o+j*5+1,none⟩) E).trans (A 1 _ rfl);have k2:wr.cell? ⟨g,o+j*5+2,none⟩=_:=(B.out.bel.cell (p:=⟨g,o+j*5+2,none⟩) E).trans (A 2 _ rfl);have k3:wr.cell? ⟨g,o+j*5+3,none⟩=_:=(B.out.bel.cell (p:=⟨g,o+j*5+3,none⟩) E).trans (A 3 _ rfl);have k4:wr.cell? ⟨g,o+j*5+4,none⟩=_:=(B.out.bel.cell (p:=⟨g,o+j*5+4,none⟩) E).trans (A 4 _ rfl);have af:=QA hd;obtain⟨wb,G⟩:∃q,q=wr.alloc (.cells #[.int .i64 x.kind,.string ⟨x.text.toArray⟩,.slice c1 x.items.length Y,.slice c2 x.fields.length S,.int .i64 x.at_] 25):=⟨_,rfl⟩
   have ad:Hid (SW w0 b F wb):=QA (by rw[G];exact B.out.alloc _);have aa:Hid (OK8 b wG wb):=QA (by rw[G];exact O.out.trans (Ab ((Below.refl _ _).alloc (QM _) _)));have al:Hid (wb.heap[wr.heap.size]?=some (.cells #[.int .i64 x.kind,.string ⟨x.text.toArray⟩,.slice c1 x.items.length Y,.slice c2 x.fields.length S,.int .i64 x.at_] 25 (0,0))):=QA (by rw[G];exact AC _ _);have W:=QA G;have H:wr.heap.size≠b:=by have:=B.out.sh.lt;omega
   clear M L hlen A hd G;by_cases hj0:j=0
   ·have I:decide (j=0)=true:=decide_eq_true hj0;rw[I]at D;have e2:decide ((0:Int)<(j:Int))=false:=decide_eq_false (by omega);have aF:decide (0<j)=false:=decide_eq_false (by omega);clear hj0 I;go_wp2_with fail;rw[← W.out];refine (P.out x ac.out deep hdp w0 b F c1 c2 Y S wb HE.out h3 ad.out (by omega) af.out).mono ?_;rintro r w4 ⟨rfl,hs4,hk4⟩;have az:=QA hs4;have aD:Hid (OK8 b wG w4):=QA (aa.out.trans hk4);clear hs4 hk4;have K:=Vl.Z.show_le deep x F;go_wp2_with fail;go_roundg (z.items.length+1-(j+1))
    case measure=>rw[HK.out];omega
    case rel=>exact⟨j+1,_,rfl,hjl,by go_num,az.out,aD.out,by rw[D.out];rfl,by omega⟩
   ·have I:decide (j=0)=false:=decide_eq_false hj0;rw[I]at D;have e2:decide ((0:Int)<(j:Int))=true:=decide_eq_true (by omega);have aF:decide (0<j)=true:=decide_eq_true (by omega);clear hj0 I;go_wp2_with fail;rw[← W.out];refine (ad.out.str [44,32] (by simp only[QO,QS];omega)).mono ?_;rintro r w3 ⟨⟨m,rfl⟩,hs3,hk3⟩;have aE:=QA hs3;have aB:=QA (aa.out.trans hk3);have aq:=QA (AD hk3 al.out H (by decide));obtain⟨y0,y1,y2,y3,y4⟩:=BD aq.out rfl rfl rfl rfl rfl;clear hs3 hk3;go_wp2_with fail;refine (P.out x ac.out deep hdp w0 b (Vl.put [44,32] F) c1 c2 Y S w3 HE.out h3 aE.out (by rw[Al];simp only[QO,QS];omega) af.out).mono ?_;rintro r w4 ⟨rfl,hs4,hk4⟩;have az:=QA hs4;have aD:Hid (OK8 b wG w4):=QA (aB.out.trans hk4);clear hs4 hk4;have K:=Vl.Z.show_le deep x (Vl.put [44,32] F);rw[Al]at K;simp only[QO,QS]at K;go_wp2_with fail;go_roundg (z.items.length+1-(j+1))
    case measure=>rw[HK.out];omega
    case rel=>exact⟨j+1,_,rfl,hjl,by go_num,az.out,aD.out,by rw[D.out];rfl,by omega⟩
  ·have e1:decide (j<z.items.length)=false:=decide_eq_false hjl;have a0:Hid (Vl.Z.shows deep true z.items s1=F):=QA (by rw[Q.out,ZH (by omega),Vl.Z.shows_nil]);have aW:F.out.length+FC+4≤1000000000:=by omega
   have bo:=QA (AD O.out ar.out a4 (by decide));have z3:=AA bo.out 3 (.slice a2 z.fields.length n2) rfl;have bv:=QA (aX.out.trans O.out);obtain⟨s2,ae⟩:∃q,q=F:=⟨_,rfl⟩
   rw[← ae]at a0 aW B;obtain⟨wF,bq⟩:∃q,q=wr:=⟨_,rfl⟩
   subst bq;clear ae O Q an hj hjl HK aC bC;go_wp2_with fail
   go_loopg [42] (z.fields.length+1) (λk i wr=>∃(j:Nat) (F:Vl.Sh),k=z.fields.length+1-j∧j≤z.fields.length∧i=.int .i64 j∧SW w0 b F wr∧OK8 b wF wr∧Vl.ZA.shows deep true z.fields s2=Vl.ZA.shows deep (decide (j=0)) (z.fields.drop j) F∧F.out.length+Vl.ZA.costs (z.fields.drop j)+4≤1000000000)
   case atStart=>exact⟨0,s2,rfl,ZX _,rfl,B.out,Lib.OthersKept.refl _ _ _,rfl,by rw[QL,← bb.out];omega⟩
   case round =>
    obtain⟨j,F,hk,hj,rfl,T,X,V,an⟩:=hrel;have HK:=QA hk;clear B;have B:=QA T;have O:=QA X;have Q:=QA V;clear hk T X V z3;by_cases hjl:j<z.fields.length
    ·have e1:decide (j<z.fields.length)=true:=decide_eq_true hjl;obtain⟨x,M⟩:∃q,z.fields[j]?=some q:=⟨z.fields[j],ZL hjl⟩
     have L:z.fields.drop j=x::z.fields.drop (j+1):=by rw[ZG hjl];rw[ZL hjl]at M;rw[Option.some.inj M]
     have D:Hid (Vl.ZA.shows deep true z.fields s2=Vl.ZA.shows deep false (z.fields.drop (j+1)) (Vl.ZA.show deep x (Vl.sep (decide (j=0)) F))):=QA (by rw[Q.out,L,Vl.ZA.shows_cons]);rw[L,Vl.ZA.costs]at an;have ac:=QA (bw.out x (ZE M));have bA:=Vl.ZA.cost_eq x;obtain⟨g,o,cs,ha,-,E,hlen,A,hd⟩:=bx.out.el j x.d (by rw[ZK,M];rfl);obtain⟨c1,c2,Y,S,rfl,aQ⟩:=BZ hd;subst ha;have k0:wr.cell? ⟨g,o+j*7,none⟩=_:=(B.out.bel.cell (p:=⟨g,o+j*7,none⟩) E).trans (A 0 _ rfl);have k1:wr.cell? ⟨g,o+j*7+1,none⟩=_:=(B.out.bel.cell (p:=⟨g,o+j*7+1,none⟩) E).trans (A 1 _ rfl);have k2:wr.cell? ⟨g,o+j*7+2,none⟩=_:=(B.out.bel.cell (p:=⟨g,o+j*7+2,none⟩) E).trans (A 2 _ rfl);have k3:wr.cell? ⟨g,o+j*7+3,none⟩=_:=(B.out.bel.cell (p:=⟨g,o+j*7+3,none⟩) E).trans (A 3 _ rfl);have k4:wr.cell? ⟨g,o+j*7+4,none⟩=_:=(B.out.bel.cell (p:=⟨g,o+j*7+4,none⟩) E).trans (A 4 _ rfl);have k5:wr.cell? ⟨g,o+j*7+5,none⟩=_:=(B.out.bel.cell (p:=⟨g,o+j*7+5,none⟩) E).trans (A 5 _ rfl);have k6:wr.cell? ⟨g,o+j*7+6,none⟩=_:=(B.out.bel.cell (p:=⟨g,o+j*7+6,none⟩) E).trans (A 6 _ rfl);have af:=QA aQ;obtain⟨wb,G⟩:∃q,q=wr.alloc (.cells #[.string ⟨x.name.toArray⟩,.int .i64 x.v.kind,.string ⟨x.v.text.toArray⟩,.slice c1 x.v.items.length Y,.slice c2 x.v.fields.length S,.int .i64 x.v.at_,.int .i64 x.at_] 72):=⟨_,rfl⟩
     have ad:Hid (SW w0 b F wb):=QA (by rw[G];exact B.out.alloc _);have aa:Hid (OK8 b wF wb):=QA (by rw[G];exact O.out.trans (Ab ((Below.refl _ _).alloc (QM _) _)));have al:Hid (wb.heap[wr.heap.size]?=some (.cells #[.string ⟨x.name.toArray⟩,.int .i64 x.v.kind,.string ⟨x.v.text.toArray⟩,.slice c1 x.v.items.length Y,.slice c2 x.v.fields.length S,.int .i64 x.v.at_,.int .i64 x.at_] 72 (0,0))):=QA (by rw[G];exact AC _ _);have W:=QA G;have H:wr.heap.size≠b:=by have:=B.out.sh.lt;omega
     clear M L hlen A hd aQ G;by_cases hj0:j=0
     ·have I:decide (j=0)=true:=decide_eq_true hj0;rw[I]at D;have e2:decide ((0:Int)<(j:Int))=false:=decide_eq_false (by omega);have aF:decide (0<j)=false:=decide_eq_false (by omega);clear hj0 I;go_wp2_with fail;rw[← W.out];refine (BG ⟨x.name.toArray⟩ wb (by show x.name.length≤_;omega)).mono ?_;rintro r w5' ⟨rfl,hw5⟩;obtain rfl:=hw5.symm;clear hw5;go_wp2_with fail;have J:=ad.out.need (Lx.isName x.name);refine J.mono ?_;clear J;rintro r w5 ⟨rfl,hs5,hk5⟩;have ay:=QA hs5;have ax:=QA (aa.out.trans hk5);have R:=QA (AD hk5 al.out H (by decide));clear hs5 hk5;obtain⟨y0,y1,y2,y3,y4,y5,y6⟩:=BW R.out rfl rfl rfl rfl rfl rfl rfl;go_wp2_with fail;refine AF [6] (by kernel_rfl) (by kernel_rfl) ?_;simp only[Ae,QF,QN,QE,QL,Nat.sub_zero,Nat.reduceSub,ZB]
      repeat (go_big_quiet_step (fail))
      refine wpQuiet_nil ?_;rintro _ ⟨nq,rfl⟩;go_wp2_with fail;rw[Gm x.name];refine ((ay.out.drewN nq).str (x.name++[58,32]) (by rw[Vl.need_out];simp only[QU,QO,QS];omega)).mono ?_;rintro r w6 ⟨⟨m2',rfl⟩,hs6,hk6⟩;have aA:=QA hs6;have aJ:Hid (OK8 b wF w6):=QA (ax.out.trans hk6);have C:=QA (AD (w:=w5.drewN nq) hk6 R.out H (by decide));clear hs6 hk6 y0 y1 y2 y3 y4 y5 y6;go_wp2;refine wpQuiet_nil ?_;rintro _ ⟨nr,rfl⟩;have y0:(w6.drewN nr).cell? ⟨wr.heap.size,0,none⟩=_:=AA C.out 0 (.string ⟨x.name.toArray⟩) rfl;have y1:(w6.drewN nr).cell? ⟨wr.heap.size,1,none⟩=_:=AA C.out 1 (.int .i64 x.v.kind) rfl;have y2:(w6.drewN nr).cell? ⟨wr.heap.size,2,none⟩=_:=AA C.out 2 (.string ⟨x.v.text.toArray⟩) rfl;have y3:(w6.drewN nr).cell? ⟨wr.heap.size,3,none⟩=_:=AA C.out 3 (.slice c1 x.v.items.length Y) rfl;have y4:(w6.drewN nr).cell? ⟨wr.heap.size,4,none⟩=_:=AA C.out 4 (.slice c2 x.v.fields.length S) rfl;have y5:(w6.drewN nr).cell? ⟨wr.heap.size,5,none⟩=_:=AA C.out 5 (.int .i64 x.v.at_) rfl;have y6:(w6.drewN nr).cell? ⟨wr.heap.size,6,none⟩=_:=AA C.out 6 (.int .i64 x.at_) rfl;go_wp2_with fail;refine (P.out x.v ac.out deep hdp w0 b (Vl.put (x.name++[58,32]) (Vl.need (Lx.isName x.name) F)) c1 c2 Y S (w6.drewN nr) HE.out h3 (aA.out.drewN nr) (by rw[Al,Vl.need_out];simp only[QU,QO,QS];omega) af.out).mono ?_;rintro r w7 ⟨rfl,hs7,hk7⟩;have aI:=QA hs7;have aG:Hid (OK8 b wF w7):=QA (aJ.out.trans hk7);clear hs7 hk7 y0 y1 y2 y3 y4 y5 y6;have K:=Vl.Z.show_le deep x.v (Vl.put (x.name++[58,32]) (Vl.need (Lx.isName x.name) F));rw[Al,Vl.need_out]at K;simp only[QU,QO,QS]at K;go_wp2_with fail;go_roundg (z.fields.length+1-(j+1))
      case measure=>rw[HK.out];omega
      case rel=>exact⟨j+1,_,rfl,hjl,by go_num,aI.out,aG.out,by rw[D.out,Vl.ZA.show_eq];rfl,by omega⟩
     ·have I:decide (j=0)=false:=decide_eq_false hj0;rw[I]at D;have e2:decide ((0:Int)<(j:Int))=true:=decide_eq_true (by omega);have aF:decide (0<j)=true:=decide_eq_true (by omega);clear hj0 I;go_wp2_with fail;rw[← W.out];refine (ad.out.str [44,32] (by simp only[QO,QS];omega)).mono ?_;rintro r w3 ⟨⟨m,rfl⟩,hs3,hk3⟩;have aE:=QA hs3;have aB:=QA (aa.out.trans hk3);have aq:=QA (AD hk3 al.out H (by decide));obtain⟨y0,y1,y2,y3,y4,y5,y6⟩:=BW aq.out rfl rfl rfl rfl rfl rfl rfl;clear hs3 hk3;go_wp2_with fail;refine (BG ⟨x.name.toArray⟩ w3 (by show x.name.length≤_;omega)).mono ?_;rintro r w5' ⟨rfl,hw5⟩;obtain rfl:=hw5.symm;clear hw5;go_wp2_with fail;have J:=aE.out.need (Lx.isName x.name);refine J.mono ?_;clear J;rintro r w5 ⟨rfl,hs5,hk5⟩;have ay:=QA hs5;have ax:=QA (aB.out.trans hk5);have R:=QA (AD hk5 aq.out H (by decide));clear hs5 hk5 y0 y1 y2 y3 y4 y5 y6;obtain⟨y0,y1,y2,y3,y4,y5,y6⟩:=BW R.out rfl rfl rfl rfl rfl rfl rfl;go_wp2_with fail;refine AF [6] (by kernel_rfl) (by kernel_rfl) ?_;simp only[Ae,QF,QN,QE,QL,Nat.sub_zero,Nat.reduceSub,ZB]
      repeat (go_big_quiet_step (fail))
      refine wpQuiet_nil ?_;rintro _ ⟨nq,rfl⟩;go_wp2_with fail;rw[Gm x.name];refine ((ay.out.drewN nq).str (x.name++[58,32]) (by rw[Vl.need_out];simp only[QU,QO,QS,Al];omega)).mono ?_;rintro r w6 ⟨⟨m2',rfl⟩,hs6,hk6⟩;have aA:=QA hs6;have aJ:Hid (OK8 b wF w6):=QA (ax.out.trans hk6);have C:=QA (AD (w:=w5.drewN nq) hk6 R.out H (by decide));clear hs6 hk6 y0 y1 y2 y3 y4 y5 y6;go_wp2;refine wpQuiet_nil ?_;rintro _ ⟨nr,rfl⟩;have y0:(w6.drewN nr).cell? ⟨wr.heap.size,0,none⟩=_:=AA C.out 0 (.string ⟨x.name.toArray⟩) rfl;have y1:(w6.drewN nr).cell? ⟨wr.heap.size,1,none⟩=_:=AA C.out 1 (.int .i64 x.v.kind) rfl;have y2:(w6.drewN nr).cell? ⟨wr.heap.size,2,none⟩=_:=AA C.out 2 (.string ⟨x.v.text.toArray⟩) rfl;have y3:(w6.drewN nr).cell? ⟨wr.heap.size,3,none⟩=_:=AA C.out 3 (.slice c1 x.v.items.length Y) rfl;have y4:(w6.drewN nr).cell? ⟨wr.heap.size,4,none⟩=_:=AA C.out 4 (.slice c2 x.v.fields.length S) rfl;have y5:(w6.drewN nr).cell? ⟨wr.heap.size,5,none⟩=_:=AA C.out 5 (.int .i64 x.v.at_) rfl;have y6:(w6.drewN nr).cell? ⟨wr.heap.size,6,none⟩=_:=AA C.out 6 (.int .i64 x.at_) rfl;go_wp2_with fail;refine (P.out x.v ac.out deep hdp w0 b (Vl.put (x.name++[58,32]) (Vl.need (Lx.isName x.name) (Vl.put [44,32] F))) c1 c2 Y S (w6.drewN nr) HE.out h3 (aA.out.drewN nr) (by rw[Al,Vl.need_out];simp only[QU,QO,QS,Al];omega) af.out).mono ?_;rintro r w7 ⟨rfl,hs7,hk7⟩;have aI:=QA hs7;have aG:Hid (OK8 b wF w7):=QA (aJ.out.trans hk7);clear hs7 hk7 y0 y1 y2 y3 y4 y5 y6;have K:=Vl.Z.show_le deep x.v (Vl.put (x.name++[58,32]) (Vl.need (Lx.isName x.name) (Vl.put [44,32] F)));rw[Al,Vl.need_out]at K;simp only[QU,QO,QS,Al]at K;go_wp2_with fail;go_roundg (z.fields.length+1-(j+1))
      case measure=>rw[HK.out];omega
      case rel=>exact⟨j+1,_,rfl,hjl,by go_num,aI.out,aG.out,by rw[D.out,Vl.ZA.show_eq];rfl,by omega⟩
    ·have e1:decide (j<z.fields.length)=false:=decide_eq_false hjl;have aZ:Hid (Vl.ZA.shows deep true z.fields s2=F):=QA (by rw[Q.out,ZH (by omega),Vl.ZA.shows_nil]);go_wp2_with fail;refine AF [5] (by kernel_rfl) (by kernel_rfl) ?_;simp only[Ae,QF,QN,QE,QL,Nat.sub_zero,Nat.reduceSub,ZB]
     repeat (go_big_quiet_step (fail))
     refine wpQuiet_nil ?_;rintro _ ⟨nq,rfl⟩;go_wp2_with fail;refine ((B.out.drewN nq).byte 125 (by omega)).mono ?_;rintro r w9 ⟨rfl,hs9,hk9⟩;have bj:=QA hs9;have bk:Hid (OK8 b w w9):=QA (bv.out.trans (O.out.trans hk9));clear hs9 hk9;go_wp2;refine wpQuiet_nil ?_;rintro _ ⟨nr,rfl⟩;go_wp2;go_end0;refine⟨rfl,?_,bk.out⟩;rw[aY.out,a0.out,aZ.out];exact bj.out.drewN nr
theorem Jn:∀N:Nat,Dz N
 | 0=>λz hN=>by have:=Vl.Z.n_pos z;omega
 | N+1=>λz hN hk deep hdp w0 b s a1 a2 n1 n2 w hE h3 hS hlen hR=>by
  have V:=Es N (Jn N);rcases hk with hk|hk
  ·exact O7 N V z hN hk deep hdp w0 b s a1 a2 n1 n2 w hE h3 hS hlen hR
  ·exact PQ N V z hN hk deep hdp w0 b s a1 a2 n1 n2 w hE h3 hS hlen hR
theorem M6 (N:Nat):Nm N:=Es N (Jn N)
namespace Vl
theorem Mb {t:List UInt8} {s:Sh} (h:t≠[]):(put t s).out≠[]:=by
 rw[put_out];intro e;exact h (List.append_eq_nil_iff.1 e).2
theorem Jo (k:Nat):one [] k=false:=by
 have:Lx.lex []=.ok [⟨0,[],0⟩]:=by kernel_rfl
 unfold one;rw[this]
theorem NJ {k:Int} {t:List UInt8} (hk:1≤k∧k≤7) (h:(leaf k t).1=true):(leaf k t).2≠[]:=by
 unfold leaf at h ⊢;have o:Lx.isName t=true→t≠[]:=λh e=>by subst e;exact absurd h (by decide)
 split
 ·simp
 rename_i h1;rw[if_neg h1]at h;split
 ·rename_i h2;rw[if_pos h2]at h;intro e;simp only at e h;rw[e,Jo]at h;cases h
 rename_i h2;rw[if_neg h2]at h;split
 ·rename_i h3;rw[if_pos h3]at h;intro e;simp only at e h;rw[e,Jo]at h;cases h
 rename_i h3;rw[if_neg h3]at h;split
 ·rename_i h4;rw[if_pos h4]at h;simp only at h ⊢;unfold quoteOf Lx.quote;rw[if_pos h];simp
 rename_i h4;rw[if_neg h4]at h;split
 ·rename_i h5;rw[if_pos h5]at h;intro e;simp only at e h;rw[e]at h;exact absurd h (by decide)
 rename_i h5;rw[if_neg h5]at h;split
 ·unfold Rd.sNull;simp
 rename_i h6;rw[if_neg h6]at h;simp only[Bool.and_eq_true]at h;exact o h.1
theorem Hd {ok:Bool} {s:Sh} (h:(need ok s).bad=false):ok=true∧s.bad=false:=by
 unfold need at h
 simpa [and_comm] using h
theorem show_ne {deep:Nat} {z:Z} {s:Sh} (h:(z.show deep s).bad=false):(z.show deep s).out≠[]:=by
 by_cases h1:1≤z.kind∧z.kind≤7
 ·rw[Z.show_leaf h1]at h ⊢;exact Mb (NJ h1 (Hd (show (need _ _).bad=false from h)).1)
 by_cases h2:z.kind=8∨z.kind=9
 ·rw[Z.show_many h2]at h ⊢;split
  ·rename_i hb;rw[if_pos hb]at h;rw[hb]at h;cases h
  ·unfold Z.inner;exact Mb (by unfold shut;split<;>simp)
 ·rw[Z.show_else h1 h2]at h;have:=(Hd h).1;cases this
def shown (z:Z):Sh:=z.show 0 ⟨[],false⟩
end Vl
theorem Kn (z:Vl.Z) (a1 a2:Option Addr) (n1 n2:Nat) (w:World) (hE:Env w) (h3:3≤w.heap.size) (hc:z.cost≤1000000000) (hR:Reads w (λ_=>True) z.d (AN z a1 a2 n1 n2).toList) :
  Calls Tryz.prog 10 #[.agg (AN z a1 a2 n1 n2)] w λe w'=>Below w.heap.size w w'∧(((Vl.shown z).bad=false∧e=.returned (.tuple #[.string ⟨(Vl.shown z).out.toArray⟩,.int .i64 0]))∨((Vl.shown z).bad=true∧e=.returned (.tuple #[.string ⟨#[]⟩,.int .i64 2]))):=by
 have N:=QA hR;have K:=QA hE;obtain⟨H,o⟩:∃q,q=(w.alloc (.cells (AN z a1 a2 n1 n2) 25)).alloc (.cells #[.pointer none,.slice none 0 0,.bool false] 67):=⟨_,rfl⟩
 have E:Below w.heap.size w H:=by rw[o];exact ((Below.refl _ _).alloc (QM _) _).alloc (by simp) _
 have I:SW w (w.heap.size+1) ⟨[],false⟩ H:=by
  refine⟨⟨by omega,.pointer none,.slice none 0 0,.inl rfl,?_,World.ownsRowF_nil _ _ _ _,by simp[Value.ownBlock]⟩,E⟩;rw[o];have:=AC (w.alloc (.cells (AN z a1 a2 n1 n2) 25)) (.cells #[.pointer none,.slice none 0 0,.bool false] 67);rw[show (w.alloc (.cells (AN z a1 a2 n1 n2) 25)).heap.size=w.heap.size+1 by simp]at this;exact this
 have F:=QA (M6 z.n z (QM _) 0 (by omega) w (w.heap.size+1) ⟨[],false⟩ a1 a2 n1 n2 H K.out h3 I (by show 0+z.cost≤_;omega) N.out);have L:=QA E;rw[o]at F;unfold AN at F ⊢;clear hR hE E I o;go_enter Tryz.func10,Tryz.ntmps10;go_wp2_with fail;refine F.out.mono ?_;rintro r w3 ⟨rfl,hs3,-⟩;have C:=QA hs3;have M:w3.cell? ⟨w.heap.size+1,2,none⟩=_:=hs3.badCell;obtain⟨J,B⟩:∃q,q=(Vl.shown z).bad:=⟨_,rfl⟩
 have A:(Vl.Z.show 0 z ⟨[],false⟩).bad=J:=B.symm;rw[A]at M;have D:=QA B;clear hs3 B A F;cases J
 ·go_wp2_with fail;refine (M4 w.heap.size (w.heap.size+1) _ _ w3 C.out.sh (Vl.show_ne (by have:=D.out;exact this.symm))).mono ?_;rintro r w4 ⟨rfl,hb4⟩;have G:=QA (C.out.bel.trans hb4);clear hb4;go_wp2_with fail;go_ret2;exact⟨G.out,.inl ⟨D.out.symm,rfl⟩⟩
 ·go_wp2_with fail;go_ret2;exact⟨C.out.bel,.inr ⟨D.out.symm,rfl⟩⟩
theorem FX (w0:World) (b n:Nat) (m:List UInt8) (k:FuncId) (cap:Array Value) (g:Nat→Bool) (t:Nat→List UInt8) (c:Nat→Nat)
  (hk:∀w (i:Int),Sem.run Tryz.prog (callFunc k (#[.int .i64 i]++cap)) w=.ok (.enter k (#[.int .i64 i]++cap)) w)
  (s:Vl.Sh) (w:World) (h:WW w0 b s w) (hl:s.out.length+Vl.cds c m.length n≤1000000000000) (hn:n≤1000000000)
  (hdo:∀(i:Nat),i<n→∀s1 w1,WW w0 b s1 w1→OK8 b w w1→w.heap.size≤w1.heap.size→s1.out.length+c i≤1000000000000→Calls Tryz.prog k (#[.int .i64 i]++cap) w1 (BE w0 b s1 w1 (g i) (t i) (c i))) :
  Calls Tryz.prog 115 #[.pointer (some ⟨b,0,none⟩),.int .i64 n,.string ⟨m.toArray⟩,.func (.func k) #[] cap] w (BE w0 b s w (Vl.gds g n) (Vl.tds t m n) (Vl.cds c m.length n)):=by
 have H:=QA h;have D:=QA hdo;have N:=QA hl;clear h hdo hl;go_enter Tryz.func115,Tryz.ntmps115;go_wp2_with fail
 go_loopg [10] (n+1) (λk i wr=>∃(j:Nat) (s1:Vl.Sh),k=n+1-j∧j≤n∧i=.int .i64 j∧WW w0 b s1 wr∧Vl.Eff s (Vl.gds g j) (Vl.tds t m j) (Vl.cds c m.length j) s1∧OK8 b w wr∧w.heap.size≤wr.heap.size)
 case atStart=>exact⟨0,s,rfl,ZX _,rfl,H.out,Vl.Eff.refl s,Lib.OthersKept.refl _ _ _,QM _⟩
 case round =>
  obtain⟨j,s1,C,hj,rfl,O,K,Q,R⟩:=hrel;have P:=QA C;have E:=QA O;have L:=QA K;have F:=QA Q;have W:=K.len;have A:=QA R;clear C O K Q R;by_cases hjn:j<n;rotate_left
  ·have X:decide (j<n)=false:=decide_eq_false hjn;obtain rfl:j=n:=by omega
   go_wp2_with fail;go_end0;exact⟨rfl,s1,E.out,L.out,F.out,A.out⟩
  have X:decide (j<n)=true:=decide_eq_true hjn;have U:=Vl.cds_le c m.length hjn;by_cases h0:j=0
  ·have Y:decide ((0:Int)<(j:Int))=false:=decide_eq_false (by omega);have S:decide (0<j)=false:=decide_eq_false (by omega);have B:=QA h0;clear h0;go_wp2_with fail;refine (D.out j hjn s1 wr E.out F.out A.out (by have:=N.out;omega)).mono ?_;rintro e w2 ⟨rfl,s2,h2,e2,o2,z2⟩;have J:=QA h2;have M:Hid (Vl.Eff s (Vl.gds g (j+1)) (Vl.tds t m (j+1)) (Vl.cds c m.length (j+1)) s2):=QA ((L.out.comp e2).to rfl (λ_=>by rw[Vl.tds,if_pos B.out,List.nil_append]) (by rw[Vl.cds];omega));have G:=QA (F.out.trans o2);have o:=QA (Nat.le_trans A.out z2);clear h2 e2 o2 z2;go_wp2_with fail;go_roundg (n+1-(j+1))
   case measure=>rw[P.out];omega
   case rel=>exact⟨j+1,s2,rfl,hjn,by go_num,J.out,M.out,G.out,o.out⟩
  ·have Y:decide ((0:Int)<(j:Int))=true:=decide_eq_true (by omega);have S:decide (0<j)=true:=decide_eq_true (by omega);have B:=QA h0;clear h0;go_wp2_with fail;refine (BV w0 b s1 _ (E.out.alloc _) _ m _ (AC _ _) (by have:=E.out.lt;simp;omega) (by decide) (by have:=N.out;omega)).mono ?_;rintro e w2 ⟨rfl,s2,h2,e2,o2,z2⟩;have J:=QA h2;have V:=e2.len;have M:=QA (L.out.comp e2);have G:=QA ((F.out.alloc _).trans o2);have o:Hid (w.heap.size≤w2.heap.size):=QA (by have:=A.out;simp at z2;omega);clear h2 e2 o2 z2;go_wp2_with fail;refine (D.out j hjn s2 w2 J.out G.out o.out (by have:=N.out;omega)).mono ?_;rintro e w3 ⟨rfl,s3,h3,e3,o3,z3⟩;have T:=QA h3;have E3:Hid (Vl.Eff s (Vl.gds g (j+1)) (Vl.tds t m (j+1)) (Vl.cds c m.length (j+1)) s3):=QA ((M.out.comp e3).to (by rw[Vl.gds,Bool.and_true]) (λ_=>by rw[Vl.tds,if_neg B.out,List.append_assoc]) (by rw[Vl.cds];omega));have Z:=QA (G.out.trans o3);have I:=QA (Nat.le_trans o.out z3);clear h3 e3 o3 z3;go_wp2_with fail;go_roundg (n+1-(j+1))
   case measure=>rw[P.out];omega
   case rel=>exact⟨j+1,s3,rfl,hjn,by go_num,T.out,E3.out,Z.out,I.out⟩
theorem LU:∃fs:Array Field,Tryz.prog.underlying 25=some (.struct fs)∧fs.toList.map (·.type)=[3,9,22,23,3]:=⟨_,Tryz.underlying25,by kernel_rfl⟩
theorem Kz:∃fs:Array Field,Tryz.prog.underlying 72=some (.struct fs)∧fs.toList.map (·.type)=[9,25,3]:=⟨_,Tryz.underlying72,by kernel_rfl⟩
theorem PZ:Tryz.prog.cellsOf 25=5:=by kernel_rfl
theorem Mn:Tryz.prog.cellsOf 72=7:=by kernel_rfl
namespace Vl
-- Sizes that memory allows.
mutual
def Z.fits:Z→Prop
 | .mk k t i f a=>(-9223372036854775808≤k∧k≤9223372036854775807)∧t.length≤maxLen∧i.length≤maxLen∧f.length≤maxLen∧Z.fitss i∧ZA.fitss f
def Z.fitss:List Z→Prop
 | []=>True
 | x::r=>Z.fits x∧Z.fitss r
def ZA.fits:ZA→Prop
 | .mk n v _=>n.length≤maxLen∧Z.fits v
def ZA.fitss:List ZA→Prop
 | []=>True
 | x::r=>ZA.fits x∧ZA.fitss r
end
theorem Z.fits_eq (z:Z):z.fits=((-9223372036854775808≤z.kind∧z.kind≤9223372036854775807)∧z.text.length≤maxLen∧z.items.length≤maxLen∧z.fields.length≤maxLen∧Z.fitss z.items∧ZA.fitss z.fields):=by cases z;rw[Z.fits];rfl
theorem ZA.fits_eq (z:ZA):z.fits=(z.name.length≤maxLen∧z.v.fits):=by cases z;rw[ZA.fits];rfl
theorem Z.fitss_mem:∀{l:List Z},Z.fitss l→∀x∈l,x.fits
 | y::r,h,x,hx=>by
  rw[Z.fitss]at h;rcases List.mem_cons.1 hx with rfl|hx
  ·exact h.1
  ·exact Z.fitss_mem h.2 x hx
theorem ZA.fitss_mem:∀{l:List ZA},ZA.fitss l→∀x∈l,x.fits
 | y::r,h,x,hx=>by
  rw[ZA.fitss]at h;rcases List.mem_cons.1 hx with rfl|hx
  ·exact h.1
  ·exact ZA.fitss_mem h.2 x hx
end Vl
theorem wf_i64 {n:Int} (h:(Lit.int .i64 n).wf=true):-9223372036854775808≤n∧n≤9223372036854775807:=by
 have o:IntKind.i64.min=-9223372036854775808:=by decide
 simpa [Lit.wf,o] using h
theorem M8 {ds:List D} (h:∀d∈ds,∃z:Vl.Z,d=z.d∧z.fits):∃zs:List Vl.Z,ds=zs.map Vl.Z.d∧Vl.Z.fitss zs:=by
 induction ds with
 | nil=>exact⟨[],rfl,by rw[Vl.Z.fitss];trivial⟩
 | cons d r ih =>
  obtain⟨z,rfl,A⟩:=h d (by simp);obtain⟨zs,rfl,o⟩:=ih (λx hx=>h x (by simp[hx]));exact⟨z::zs,rfl,by rw[Vl.Z.fitss];exact⟨A,o⟩⟩
theorem Nf {ds:List D} (h:∀d∈ds,∃z:Vl.ZA,d=z.d∧z.fits):∃zs:List Vl.ZA,ds=zs.map Vl.ZA.d∧Vl.ZA.fitss zs:=by
 induction ds with
 | nil=>exact⟨[],rfl,by rw[Vl.ZA.fitss];trivial⟩
 | cons d r ih =>
  obtain⟨z,rfl,A⟩:=h d (by simp);obtain⟨zs,rfl,o⟩:=ih (λx hx=>h x (by simp[hx]));exact⟨z::zs,rfl,by rw[Vl.ZA.fitss];exact⟨A,o⟩⟩
theorem G9:∀(n:Nat) (d:D),SizeOf.sizeOf d≤n→(Ai Tryz.prog 25 d→∃z:Vl.Z,d=z.d∧z.fits)∧(Ai Tryz.prog 72 d→∃z:Vl.ZA,d=z.d∧z.fits)
 | 0,d,hn=>by cases d<;>simp at hn
 | n+1,d,hn=>by
  refine⟨λh0=>?_,λh0=>?_⟩
  ·obtain⟨Y,C,B⟩:=LU;obtain⟨ds,rfl,h⟩:=h0.obj C;clear h0;rw[B]at h;obtain⟨U,O,rfl,E,h⟩:=h.cons;obtain⟨M,W,rfl,J,h⟩:=h.cons;obtain⟨P,S,rfl,L,h⟩:=h.cons;obtain⟨d4,r4,rfl,X,h⟩:=h.cons;obtain⟨d5,r5,rfl,V,h⟩:=h.cons;obtain rfl:=h.nil;obtain⟨k,rfl,N⟩:=E.int Tryz.underlying3;obtain⟨t,rfl,I⟩:=J.str Tryz.underlying9;obtain⟨is,rfl,A,F⟩:=L.seq Tryz.underlying22;obtain⟨T,rfl,o,H⟩:=X.seq Tryz.underlying23;obtain⟨a,rfl,-⟩:=V.int Tryz.underlying3;simp only[D.obj.sizeOf_spec,D.seq.sizeOf_spec,List.cons.sizeOf_spec,List.nil.sizeOf_spec]at hn;obtain⟨Q,rfl,K⟩:=M8 (ds:=is) (λx hx=>(G9 n x (by have:=List.sizeOf_lt_of_mem hx;omega)).1 (F.mem x hx));obtain⟨R,rfl,G⟩:=Nf (ds:=T) (λx hx=>(G9 n x (by have:=List.sizeOf_lt_of_mem hx;omega)).2 (H.mem x hx));rw[List.length_map]at A o;refine⟨.mk k t Q R a,?_,?_⟩
   ·rw[Vl.Z.d,Vl.Z.dl_map,Vl.ZA.dl_map,PZ,Mn]
   ·rw[Vl.Z.fits];exact⟨wf_i64 N,I,A,o,K,G⟩
  ·obtain⟨Y,C,B⟩:=Kz;obtain⟨ds,rfl,h⟩:=h0.obj C;clear h0;rw[B]at h;obtain⟨U,O,rfl,E,h⟩:=h.cons;obtain⟨M,W,rfl,J,h⟩:=h.cons;obtain⟨P,S,rfl,L,h⟩:=h.cons;obtain rfl:=h.nil;obtain⟨t,rfl,I⟩:=E.str Tryz.underlying9;obtain⟨a,rfl,-⟩:=L.int Tryz.underlying3;simp only[D.obj.sizeOf_spec,List.cons.sizeOf_spec,List.nil.sizeOf_spec]at hn;obtain⟨v,rfl,hv⟩:=(G9 n M (by omega)).1 J;refine⟨.mk t v a,?_,?_⟩
   ·rw[Vl.ZA.d]
   ·rw[Vl.ZA.fits];exact⟨I,hv⟩
theorem Oa (d:D) (h:Ai Tryz.prog 25 d):∃z:Vl.Z,d=z.d∧z.fits:=(G9 _ d (QM _)).1 h
theorem Ox (d:D) (h:Ai Tryz.prog 72 d):∃z:Vl.ZA,d=z.d∧z.fits:=(G9 _ d (QM _)).2 h
end Go.Proofs.YtefjgpkpplkkgaaGreatDoor
