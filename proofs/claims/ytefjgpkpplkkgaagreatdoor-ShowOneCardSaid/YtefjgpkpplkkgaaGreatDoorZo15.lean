/-
  The writer of documents: whether a value has variables, and how deep it is, walked. Documents as data in memory; a block that is filled field by field, its data beside it. The reader of documents: directives, but, walked. The reader of documents: variable, walked.
-/
import Derived.Test.YtefjgpkpplkkgaaGreatDoorZo5
import Derived.Test.YtefjgpkpplkkgaaGreatDoorZo14
import Derived.Test.YtefjgpkpplkkgaaGreatDoorZo2
open Go.Lib renaming hid → QA
open List renaming mem_singleton → QB, length_map → QZ, mem_of_getElem? → ZE, drop_eq_getElem_cons → ZG, drop_eq_nil_of_le → ZH, getElem?_map → ZK, getElem?_eq_getElem → ZL
open Nat renaming le_refl → QM, zero_le → ZX
namespace Go.Proofs.YtefjgpkpplkkgaaGreatDoor
set_option maxRecDepth 100000
set_option maxHeartbeats 4000000
set_option linter.unusedSimpArgs false
set_option linter.unusedVariables false
open Go Go.RowKit
theorem Bi (w:World) (cs:Array Value) (T:TypeId):Below w.heap.size w (w.alloc (.cells cs T)):=(Below.refl _ _).alloc (QM _) _
def PO (N:Nat):Prop:=∀(z:Vl.Z),z.n≤N→∀(a1 a2:Option Addr) (c1 c2:Nat) (w:World) (P:Nat→Prop),
 Reads w P z.d [.int .i64 z.kind,.string ⟨z.text.toArray⟩,.slice a1 z.items.length c1,.slice a2 z.fields.length c2,.int .i64 z.at_] →
 Calls Tryz.prog 180 #[.agg #[.int .i64 z.kind,.string ⟨z.text.toArray⟩,.slice a1 z.items.length c1,.slice a2 z.fields.length c2,.int .i64 z.at_]] w (λr w'=>r=.returned (.bool z.nov)∧Below w.heap.size w w')
theorem It (N:Nat) (hNb:N≤1000000000) (IH:PO N):PO (N+1):=by
 intro z hN a1 a2 c1 c2 w P hR;have aw:=Vl.Z.n_eq z;have av:=Vl.Z.ns_len z.items;have aC:=Vl.ZA.ns_len z.fields
 obtain⟨x1,x2,x3,x4,ex,aq,af⟩:=BR hR;obtain⟨rfl,rfl,rfl,rfl⟩:a1=x1∧c1=x3∧a2=x2∧c2=x4:=by simpa [and_assoc] using ex
 have hz:z.items.length≤1000000001:=by omega
 have hy:z.fields.length≤1000000001:=by omega
 have aK:Hid (∀x∈z.items,x.n≤N):=QA (λx hx=>by have:=Vl.Z.ns_mem hx;omega);have aH:Hid (∀x∈z.fields,x.v.n≤N):=QA (λx hx=>by have:=Vl.ZA.ns_mem hx;have:=Vl.ZA.n_eq x;omega);obtain⟨wc,W⟩:∃q,q=w.alloc (.cells #[.int .i64 z.kind,.string ⟨z.text.toArray⟩,.slice a1 z.items.length c1,.slice a2 z.fields.length c2,.int .i64 z.at_] 25):=⟨_,rfl⟩
 have U:Below w.heap.size w wc:=by rw[W];exact Bi _ _ _
 have ap:wc.heap[w.heap.size]?=some (.cells #[.int .i64 z.kind,.string ⟨z.text.toArray⟩,.slice a1 z.items.length c1,.slice a2 z.fields.length c2,.int .i64 z.at_] 25 (0,0)):=by rw[W];exact AC _ _
 have aJ:=QA W;have am:=QA U;have T:=QA ap;have az:=QA (aq.to (AE.below U));have aB:=QA (af.to (AE.below U));have ad:=QA IH;obtain⟨S,hS⟩:∃S,S=z.nov:=⟨_,rfl⟩
 obtain⟨b0,Y⟩:∃b,b=(z.kind != 1):=⟨_,rfl⟩
 have HF:Hid (S=(b0&&(Vl.Z.novs z.items&&Vl.ZA.novs z.fields))):=QA (by rw[hS,Vl.Z.nov_eq,Y];congr 1;by_cases h:z.kind=1<;>simp[h]);rw[← hS];have ay:=QA Y;clear hR ex aq af U W IH ap aw av aC hS Y hN;go_enter Tryz.func180,Tryz.ntmps180;go_wp2_with fail;rw[← aJ.out];rw[← ay.out]
 go_loopg [3,14] (z.items.length+1) (λk v i wr=>∃(j:Nat) (b:Bool),k=z.items.length+1-j∧j≤z.items.length∧i=.int .i64 j∧v=.bool b∧S=(b&&(Vl.Z.novs (z.items.drop j)&&Vl.ZA.novs z.fields))∧Below wc.heap.size wc wr)
 case atStart=>exact⟨0,b0,rfl,ZX _,rfl,rfl,HF.out,Below.refl _ _⟩
 case round =>
  obtain⟨j,b,hk,hj,rfl,rfl,hs,J⟩:=hrel;have HK:=QA hk;have G:=QA hs;have B:=QA (J);have K:=QA J;have V:Hid (wr.heap[w.heap.size]?=some (.cells #[.int .i64 z.kind,.string ⟨z.text.toArray⟩,.slice a1 z.items.length c1,.slice a2 z.fields.length c2,.int .i64 z.at_] 25 (0,0))):=QA ((B.out.block _ (block_lt T.out)).trans T.out);clear hk hs J;by_cases hjl:j<z.items.length
  ·have e5:decide (j<z.items.length)=true:=decide_eq_true hjl;obtain⟨p,R⟩:∃x,z.items[j]?=some x:=⟨z.items[j],ZL hjl⟩
   have L:z.items.drop j=p::z.items.drop (j+1):=by rw[ZG hjl];rw[ZL hjl]at R;rw[Option.some.inj R]
   have M:=aK.out p (ZE R);obtain⟨g,o,cs,ha,-,D,O,A,hd⟩:=az.out.el j p.d (by rw[ZK,R];rfl);have E:Hid (S=(b&&((p.nov&&Vl.Z.novs (z.items.drop (j+1)))&&Vl.ZA.novs z.fields))):=by have:=G.out;rw[L,Vl.Z.novs]at this;exact QA this
   obtain⟨p1,p2,u1,u2,rfl,-,-⟩:=BR hd;have k0:wr.cell? ⟨g,o+j*5,none⟩=_:=(B.out.cell (p:=⟨g,o+j*5,none⟩) D).trans (A 0 _ rfl);have k1:wr.cell? ⟨g,o+j*5+1,none⟩=_:=(B.out.cell (p:=⟨g,o+j*5+1,none⟩) D).trans (A 1 _ rfl);have k2:wr.cell? ⟨g,o+j*5+2,none⟩=_:=(B.out.cell (p:=⟨g,o+j*5+2,none⟩) D).trans (A 2 _ rfl);have k3:wr.cell? ⟨g,o+j*5+3,none⟩=_:=(B.out.cell (p:=⟨g,o+j*5+3,none⟩) D).trans (A 3 _ rfl);have k4:wr.cell? ⟨g,o+j*5+4,none⟩=_:=(B.out.cell (p:=⟨g,o+j*5+4,none⟩) D).trans (A 4 _ rfl);subst ha;obtain⟨wa,H⟩:∃q,q=wr.alloc (.cells #[.int .i64 p.kind,.string ⟨p.text.toArray⟩,.slice p1 p.items.length u1,.slice p2 p.fields.length u2,.int .i64 p.at_] 25):=⟨_,rfl⟩
   have I:Below wr.heap.size wr wa:=by rw[H];exact Bi _ _ _
   have C:=QA (ad.out p M p1 p2 u1 u2 wa P (hd.to (AE.below (B.out.trans (I.mono B.out.size)))));have F:=QA (K.out.trans (I.mono K.out.size));rw[H]at C F;clear R L O A hd G M H I;obtain⟨qv,Q⟩:∃r,r=p.nov:=⟨_,rfl⟩
   rw[← Q]at C E;clear Q;cases b
   ·go_wp2_with fail;go_roundg (z.items.length+1-(j+1))
    case measure=>rw[HK.out];omega
    case rel=>exact⟨j+1,false,rfl,hjl,by go_num,rfl,by rw[E.out];rfl,F.out⟩
   go_wp2_with fail;refine C.out.mono ?_;rintro e w6 ⟨rfl,hb6⟩;have X:=QA (F.out.trans (hb6.mono F.out.size));clear hb6 k0 k1 k2 k3 k4 C;go_wp2_with fail;go_roundg (z.items.length+1-(j+1))
   case measure=>rw[HK.out];omega
   case rel=>exact⟨j+1,qv,rfl,hjl,by go_num,rfl,by rw[E.out];cases qv<;>rfl,X.out⟩
  ·have e5:decide (j<z.items.length)=false:=decide_eq_false hjl;have E:Hid (S=(b&&Vl.ZA.novs z.fields)):=by
    have:=G.out;rw[ZH (by omega),Vl.Z.novs,Bool.true_and]at this;exact QA this
   have z3:wr.cell? ⟨w.heap.size,3,none⟩=some (.slice a2 z.fields.length c2):=AA V.out 3 _ rfl;obtain⟨w5,ag⟩:∃q,q=wr:=⟨_,rfl⟩
   rw[← ag]at B z3 V ⊢;have ah:=B;clear ag B K V HK G;go_wp2_with fail
   go_loopg [3,27] (z.fields.length+1) (λk v i wr=>∃(j:Nat) (b:Bool),k=z.fields.length+1-j∧j≤z.fields.length∧i=.int .i64 j∧v=.bool b∧S=(b&&Vl.ZA.novs (z.fields.drop j))∧Below w5.heap.size w5 wr)
   case atStart=>exact⟨0,b,rfl,ZX _,rfl,rfl,E.out,Below.refl _ _⟩
   case round =>
    obtain⟨j,b,hk,hj,rfl,rfl,hs,J⟩:=hrel;have HK:=QA hk;have G:=QA hs;have B:=QA (ah.out.trans (J.mono ah.out.size));have K:=QA J;have V:Hid (wr.heap[w.heap.size]?=some (.cells #[.int .i64 z.kind,.string ⟨z.text.toArray⟩,.slice a1 z.items.length c1,.slice a2 z.fields.length c2,.int .i64 z.at_] 25 (0,0))):=QA ((B.out.block _ (block_lt T.out)).trans T.out);clear hk hs J;by_cases hjl:j<z.fields.length
    ·have e5:decide (j<z.fields.length)=true:=decide_eq_true hjl;obtain⟨p,R⟩:∃x,z.fields[j]?=some x:=⟨z.fields[j],ZL hjl⟩
     have L:z.fields.drop j=p::z.fields.drop (j+1):=by rw[ZG hjl];rw[ZL hjl]at R;rw[Option.some.inj R]
     have M:=aH.out p (ZE R);obtain⟨g,o,cs,ha,-,D,O,A,hd⟩:=aB.out.el j p.d (by rw[ZK,R];rfl);have E:Hid (S=(b&&(p.v.nov&&Vl.ZA.novs (z.fields.drop (j+1))))):=by have:=G.out;rw[L,Vl.ZA.novs_cons]at this;exact QA this
     obtain⟨p1,p2,u1,u2,rfl,ae⟩:=BZ hd;have k0:wr.cell? ⟨g,o+j*7,none⟩=_:=(B.out.cell (p:=⟨g,o+j*7,none⟩) D).trans (A 0 _ rfl);have k1:wr.cell? ⟨g,o+j*7+1,none⟩=_:=(B.out.cell (p:=⟨g,o+j*7+1,none⟩) D).trans (A 1 _ rfl);have k2:wr.cell? ⟨g,o+j*7+2,none⟩=_:=(B.out.cell (p:=⟨g,o+j*7+2,none⟩) D).trans (A 2 _ rfl);have k3:wr.cell? ⟨g,o+j*7+3,none⟩=_:=(B.out.cell (p:=⟨g,o+j*7+3,none⟩) D).trans (A 3 _ rfl);have k4:wr.cell? ⟨g,o+j*7+4,none⟩=_:=(B.out.cell (p:=⟨g,o+j*7+4,none⟩) D).trans (A 4 _ rfl);have k5:wr.cell? ⟨g,o+j*7+5,none⟩=_:=(B.out.cell (p:=⟨g,o+j*7+5,none⟩) D).trans (A 5 _ rfl);have k6:wr.cell? ⟨g,o+j*7+6,none⟩=_:=(B.out.cell (p:=⟨g,o+j*7+6,none⟩) D).trans (A 6 _ rfl);subst ha;obtain⟨wa,H⟩:∃q,q=wr.alloc (.cells #[.string ⟨p.name.toArray⟩,.int .i64 p.v.kind,.string ⟨p.v.text.toArray⟩,.slice p1 p.v.items.length u1,.slice p2 p.v.fields.length u2,.int .i64 p.v.at_,.int .i64 p.at_] 72):=⟨_,rfl⟩
     have I:Below wr.heap.size wr wa:=by rw[H];exact Bi _ _ _
     have C:=QA (ad.out p.v M p1 p2 u1 u2 wa P (ae.to (AE.below (B.out.trans (I.mono B.out.size)))));have F:=QA (K.out.trans (I.mono K.out.size));rw[H]at C F;clear R L O A hd ae G M H I;obtain⟨qv,Q⟩:∃r,r=p.v.nov:=⟨_,rfl⟩
     rw[← Q]at C E;clear Q;cases b
     ·go_wp2_with fail;go_roundg (z.fields.length+1-(j+1))
      case measure=>rw[HK.out];omega
      case rel=>exact⟨j+1,false,rfl,hjl,by go_num,rfl,by rw[E.out];rfl,F.out⟩
     go_wp2_with fail;refine C.out.mono ?_;rintro e w6 ⟨rfl,hb6⟩;have X:=QA (F.out.trans (hb6.mono F.out.size));clear hb6 k0 k1 k2 k3 k4 k5 k6 C;go_wp2_with fail;go_roundg (z.fields.length+1-(j+1))
     case measure=>rw[HK.out];omega
     case rel=>exact⟨j+1,qv,rfl,hjl,by go_num,rfl,by rw[E.out];rfl,X.out⟩
    ·have e5:decide (j<z.fields.length)=false:=decide_eq_false hjl;have E:Hid (S=b):=by
      have:=G.out;rw[ZH (by omega),Vl.ZA.novs,Bool.and_true]at this;exact QA this
     have ax:=QA (am.out.trans (B.out.mono am.out.size));go_wp2_with fail;go_ret;exact⟨by rw[E.out];rfl,ax.out⟩
theorem GU:∀(N:Nat),N≤1000000000→PO N
 | 0,_=>λz hN=>by have:=Vl.Z.n_pos z;omega
 | N+1,h=>It N (by omega) (GU N (by omega))
def Oe (N:Nat):Prop:=∀(z:Vl.Z),z.n≤N→∀(a1 a2:Option Addr) (c1 c2:Nat) (w:World) (P:Nat→Prop),
 Reads w P z.d [.int .i64 z.kind,.string ⟨z.text.toArray⟩,.slice a1 z.items.length c1,.slice a2 z.fields.length c2,.int .i64 z.at_] →
 Calls Tryz.prog 182 #[.agg #[.int .i64 z.kind,.string ⟨z.text.toArray⟩,.slice a1 z.items.length c1,.slice a2 z.fields.length c2,.int .i64 z.at_]] w (λr w'=>r=.returned (.int .i64 z.dep)∧Below w.heap.size w w')
theorem Kk (N:Nat) (hNb:N≤1000000000) (IH:Oe N):Oe (N+1):=by
 intro z hN a1 a2 c1 c2 w P hR;have aC:=Vl.Z.n_eq z;have aB:=Vl.Z.ns_len z.items;have aI:=Vl.ZA.ns_len z.fields;have au:=Vl.dep_le z;obtain⟨x1,x2,x3,x4,ex,ay,ag⟩:=BR hR;obtain⟨rfl,rfl,rfl,rfl⟩:a1=x1∧c1=x3∧a2=x2∧c2=x4:=by simpa [and_assoc] using ex
 have hz:z.items.length≤1000000001:=by omega
 have hy:z.fields.length≤1000000001:=by omega
 have aw:Hid (∀x∈z.items,x.n≤N):=QA (λx hx=>by have:=Vl.Z.ns_mem hx;omega);have av:Hid (∀x∈z.fields,x.v.n≤N):=QA (λx hx=>by have:=Vl.ZA.ns_mem hx;have:=Vl.ZA.n_eq x;omega);obtain⟨wc,W⟩:∃q,q=w.alloc (.cells #[.int .i64 z.kind,.string ⟨z.text.toArray⟩,.slice a1 z.items.length c1,.slice a2 z.fields.length c2,.int .i64 z.at_] 25):=⟨_,rfl⟩
 have V:Below w.heap.size w wc:=by rw[W];exact Bi _ _ _
 have ax:wc.heap[w.heap.size]?=some (.cells #[.int .i64 z.kind,.string ⟨z.text.toArray⟩,.slice a1 z.items.length c1,.slice a2 z.fields.length c2,.int .i64 z.at_] 25 (0,0)):=by rw[W];exact AC _ _
 have aQ:=QA W;have ao:=QA V;have U:=QA ax;have aF:=QA (ay.to (AE.below V));have aH:=QA (ag.to (AE.below V));have ae:=QA IH;obtain⟨S,hS⟩:∃S,S=z.dep:=⟨_,rfl⟩
 have HF:Hid (S=max (Vl.Z.deps z.items) (Vl.ZA.deps z.fields)+(if Vl.many z.kind then 1 else 0)):=QA (by rw[hS,Vl.Z.dep_eq]);have aE:Hid (∀x∈z.items,x.dep≤1000000000):=QA (λx hx=>by have:=Vl.dep_le x;have:=aw.out x hx;omega);have aD:Hid (∀x∈z.fields,x.v.dep≤1000000000):=QA (λx hx=>by have:=Vl.dep_le x.v;have:=av.out x hx;omega);have aW:=QA (Vl.deps_le z.items);have X:Hid (max (Vl.Z.deps z.items) (Vl.ZA.deps z.fields)≤1000000001):=QA (by rw[Vl.Z.dep_eq]at au;omega);rw[← hS];clear hR ex ay ag V W IH ax aC aB aI hS hN au;go_enter Tryz.func182,Tryz.ntmps182;go_wp2_with fail;rw[← aQ.out]
 go_loopg [3,11] (z.items.length+1) (λk v i wr=>∃(j:Nat) (b:Nat),k=z.items.length+1-j∧j≤z.items.length∧i=.int .i64 j∧v=.int .i64 (b:Nat)∧max b (Vl.Z.deps (z.items.drop j))=Vl.Z.deps z.items∧Below wc.heap.size wc wr)
 case atStart=>exact⟨0,0,rfl,ZX _,rfl,rfl,Nat.zero_max _,Below.refl _ _⟩
 case round =>
  obtain⟨j,b,hk,hj,rfl,rfl,hs,J⟩:=hrel;have HK:=QA hk;have F:=QA hs;have B:=QA (J);have K:=QA J;have T:Hid (wr.heap[w.heap.size]?=some (.cells #[.int .i64 z.kind,.string ⟨z.text.toArray⟩,.slice a1 z.items.length c1,.slice a2 z.fields.length c2,.int .i64 z.at_] 25 (0,0))):=QA ((B.out.block _ (block_lt U.out)).trans U.out);clear hk hs J;by_cases hjl:j<z.items.length
  ·have e5:decide (j<z.items.length)=true:=decide_eq_true hjl;obtain⟨p,L⟩:∃x,z.items[j]?=some x:=⟨z.items[j],ZL hjl⟩
   have M:z.items.drop j=p::z.items.drop (j+1):=by rw[ZG hjl];rw[ZL hjl]at L;rw[Option.some.inj L]
   have O:=aw.out p (ZE L);obtain⟨g,o,cs,ha,-,E,Q,A,hd⟩:=aF.out.el j p.d (by rw[ZK,L];rfl);have D:Hid (max b (max p.dep (Vl.Z.deps (z.items.drop (j+1))))=Vl.Z.deps z.items):=by have:=F.out;rw[M,Vl.Z.deps]at this;exact QA this
   have ab:p.dep≤1000000000:=aE.out p (ZE L);have aq:b≤1000000001:=by have:=D.out;have:=X.out;omega
   obtain⟨p1,p2,u1,u2,rfl,-,-⟩:=BR hd;have k0:wr.cell? ⟨g,o+j*5,none⟩=_:=(B.out.cell (p:=⟨g,o+j*5,none⟩) E).trans (A 0 _ rfl);have k1:wr.cell? ⟨g,o+j*5+1,none⟩=_:=(B.out.cell (p:=⟨g,o+j*5+1,none⟩) E).trans (A 1 _ rfl);have k2:wr.cell? ⟨g,o+j*5+2,none⟩=_:=(B.out.cell (p:=⟨g,o+j*5+2,none⟩) E).trans (A 2 _ rfl);have k3:wr.cell? ⟨g,o+j*5+3,none⟩=_:=(B.out.cell (p:=⟨g,o+j*5+3,none⟩) E).trans (A 3 _ rfl);have k4:wr.cell? ⟨g,o+j*5+4,none⟩=_:=(B.out.cell (p:=⟨g,o+j*5+4,none⟩) E).trans (A 4 _ rfl);subst ha;obtain⟨wa,H⟩:∃q,q=wr.alloc (.cells #[.int .i64 p.kind,.string ⟨p.text.toArray⟩,.slice p1 p.items.length u1,.slice p2 p.fields.length u2,.int .i64 p.at_] 25):=⟨_,rfl⟩
   have I:Below wr.heap.size wr wa:=by rw[H];exact Bi _ _ _
   have C:=QA (ae.out p O p1 p2 u1 u2 wa P (hd.to (AE.below (B.out.trans (I.mono B.out.size)))));have G:=QA (K.out.trans (I.mono K.out.size));rw[H]at C G;clear L M Q A hd F O H I;obtain⟨qv,R⟩:∃r,r=p.dep:=⟨_,rfl⟩
   rw[← R]at C D ab;clear R;go_wp2_with fail;refine C.out.mono ?_;rintro e w6 ⟨rfl,hb6⟩;have Y:=QA (G.out.trans (hb6.mono G.out.size));clear hb6 k0 k1 k2 k3 k4 C;go_wp2_with fail;go_roundg (z.items.length+1-(j+1))
   case measure=>rw[HK.out];omega
   case rel=>exact⟨j+1,max b qv,rfl,hjl,by go_num,by first|rfl|(congr 1;omega),by have:=D.out;omega,Y.out⟩
  ·have e5:decide (j<z.items.length)=false:=decide_eq_false hjl;have D:Hid (b=Vl.Z.deps z.items):=by
    have:=F.out;rw[ZH (by omega),Vl.Z.deps,Nat.max_zero]at this;exact QA this
   have z3:wr.cell? ⟨w.heap.size,3,none⟩=some (.slice a2 z.fields.length c2):=AA T.out 3 _ rfl;obtain⟨w5,ah⟩:∃q,q=wr:=⟨_,rfl⟩
   rw[← ah]at B z3 T ⊢;have aj:=B;clear ah B K T HK F;go_wp2_with fail
   go_loopg [3,23] (z.fields.length+1) (λk v i wr=>∃(j:Nat) (b:Nat),k=z.fields.length+1-j∧j≤z.fields.length∧i=.int .i64 j∧v=.int .i64 (b:Nat)∧max b (Vl.ZA.deps (z.fields.drop j))=max (Vl.Z.deps z.items) (Vl.ZA.deps z.fields)∧Below w5.heap.size w5 wr)
   case atStart=>exact⟨0,b,rfl,ZX _,rfl,rfl,by rw[D.out,List.drop_zero],Below.refl _ _⟩
   case round =>
    obtain⟨j,b,hk,hj,rfl,rfl,hs,J⟩:=hrel;have HK:=QA hk;have F:=QA hs;have B:=QA (aj.out.trans (J.mono aj.out.size));have K:=QA J;have T:Hid (wr.heap[w.heap.size]?=some (.cells #[.int .i64 z.kind,.string ⟨z.text.toArray⟩,.slice a1 z.items.length c1,.slice a2 z.fields.length c2,.int .i64 z.at_] 25 (0,0))):=QA ((B.out.block _ (block_lt U.out)).trans U.out);clear hk hs J;by_cases hjl:j<z.fields.length
    ·have e5:decide (j<z.fields.length)=true:=decide_eq_true hjl;obtain⟨p,L⟩:∃x,z.fields[j]?=some x:=⟨z.fields[j],ZL hjl⟩
     have M:z.fields.drop j=p::z.fields.drop (j+1):=by rw[ZG hjl];rw[ZL hjl]at L;rw[Option.some.inj L]
     have O:=av.out p (ZE L);obtain⟨g,o,cs,ha,-,E,Q,A,hd⟩:=aH.out.el j p.d (by rw[ZK,L];rfl);have D:Hid (max b (max p.v.dep (Vl.ZA.deps (z.fields.drop (j+1))))=max (Vl.Z.deps z.items) (Vl.ZA.deps z.fields)):=by have:=F.out;rw[M,Vl.ZA.deps_cons]at this;exact QA this
     have ab:p.v.dep≤1000000000:=aD.out p (ZE L);have aq:b≤1000000001:=by have:=D.out;have:=X.out;omega
     obtain⟨p1,p2,u1,u2,rfl,af⟩:=BZ hd;have k0:wr.cell? ⟨g,o+j*7,none⟩=_:=(B.out.cell (p:=⟨g,o+j*7,none⟩) E).trans (A 0 _ rfl);have k1:wr.cell? ⟨g,o+j*7+1,none⟩=_:=(B.out.cell (p:=⟨g,o+j*7+1,none⟩) E).trans (A 1 _ rfl);have k2:wr.cell? ⟨g,o+j*7+2,none⟩=_:=(B.out.cell (p:=⟨g,o+j*7+2,none⟩) E).trans (A 2 _ rfl);have k3:wr.cell? ⟨g,o+j*7+3,none⟩=_:=(B.out.cell (p:=⟨g,o+j*7+3,none⟩) E).trans (A 3 _ rfl);have k4:wr.cell? ⟨g,o+j*7+4,none⟩=_:=(B.out.cell (p:=⟨g,o+j*7+4,none⟩) E).trans (A 4 _ rfl);have k5:wr.cell? ⟨g,o+j*7+5,none⟩=_:=(B.out.cell (p:=⟨g,o+j*7+5,none⟩) E).trans (A 5 _ rfl);have k6:wr.cell? ⟨g,o+j*7+6,none⟩=_:=(B.out.cell (p:=⟨g,o+j*7+6,none⟩) E).trans (A 6 _ rfl);subst ha;obtain⟨wa,H⟩:∃q,q=wr.alloc (.cells #[.string ⟨p.name.toArray⟩,.int .i64 p.v.kind,.string ⟨p.v.text.toArray⟩,.slice p1 p.v.items.length u1,.slice p2 p.v.fields.length u2,.int .i64 p.v.at_,.int .i64 p.at_] 72):=⟨_,rfl⟩
     have I:Below wr.heap.size wr wa:=by rw[H];exact Bi _ _ _
     have C:=QA (ae.out p.v O p1 p2 u1 u2 wa P (af.to (AE.below (B.out.trans (I.mono B.out.size)))));have G:=QA (K.out.trans (I.mono K.out.size));rw[H]at C G;clear L M Q A hd af F O H I;obtain⟨qv,R⟩:∃r,r=p.v.dep:=⟨_,rfl⟩
     rw[← R]at C D ab;clear R;go_wp2_with fail;refine C.out.mono ?_;rintro e w6 ⟨rfl,hb6⟩;have Y:=QA (G.out.trans (hb6.mono G.out.size));clear hb6 k0 k1 k2 k3 k4 k5 k6 C;go_wp2_with fail;go_roundg (z.fields.length+1-(j+1))
     case measure=>rw[HK.out];omega
     case rel=>exact⟨j+1,max b qv,rfl,hjl,by go_num,by first|rfl|(congr 1;omega),by have:=D.out;omega,Y.out⟩
    ·have e5:decide (j<z.fields.length)=false:=decide_eq_false hjl;have D:Hid (b=max (Vl.Z.deps z.items) (Vl.ZA.deps z.fields)):=by
      have:=F.out;rw[ZH (by omega),Vl.ZA.deps,Nat.max_zero]at this;exact QA this
     have aa:=QA (ao.out.trans (B.out.mono ao.out.size));have z0:wr.cell? ⟨w.heap.size,0,none⟩=some (.int .i64 z.kind):=AA T.out 0 _ rfl;have aq:b≤1000000001:=by have:=D.out;have:=X.out;omega
     by_cases h8:z.kind=8
     ·have q8:(z.kind==8)=true:=by rw[beq_iff_eq];exact h8
      have HG:Hid (S=b+1):=QA (by rw[HF.out,D.out,if_pos (by unfold Vl.many;exact .inl h8)]);clear h8;go_wp2_with fail;go_ret;exact⟨by rw[HG.out];rfl,aa.out⟩
     have q8:(z.kind==8)=false:=by rw[beq_eq_false_iff_ne];exact h8
     by_cases h9:z.kind=9
     ·have q9:(z.kind==9)=true:=by rw[beq_iff_eq];exact h9
      have HG:Hid (S=b+1):=QA (by rw[HF.out,D.out,if_pos (by unfold Vl.many;exact .inr h9)]);clear h8 h9;go_wp2_with fail;go_ret;exact⟨by rw[HG.out];rfl,aa.out⟩
     have q9:(z.kind==9)=false:=by rw[beq_eq_false_iff_ne];exact h9
     have HG:Hid (S=b):=QA (by rw[HF.out,D.out,if_neg (by unfold Vl.many;omega),Nat.add_zero]);clear h8 h9;go_wp2_with fail;go_ret;exact⟨by rw[HG.out];rfl,aa.out⟩
theorem Ij:∀(N:Nat),N≤1000000000→Oe N
 | 0,_=>λz hN=>by have:=Vl.Z.n_pos z;omega
 | N+1,h=>Kk N (by omega) (Ij N (by omega))
namespace Qr
def Dir.d (x:Dir):D:=.obj [.str x.name,.seq 7 (x.args.map Rd.A.d),.int x.at_]
mutual
def Sel.d:Sel→D
 | .mk k al nm ar ds ss a=>.obj [.int k,.str al,.str nm,.seq 7 (ar.map Rd.A.d),.seq 3 (ds.map Dir.d),.seq 7 (Sel.dl ss),.int a]
def Sel.dl:List Sel→List D
 | []=>[]
 | x::r=>Sel.d x::Sel.dl r
end
theorem Sel.dl_map:∀l:List Sel,Sel.dl l=l.map Sel.d
 | []=>by rw[Sel.dl];rfl
 | x::r=>by rw[Sel.dl,Sel.dl_map r];rfl
def Vd.d (x:Vd):D:=.obj [.str x.name,.str x.type,.bool x.has,x.dflt.d,.int x.at_]
def Op.d (x:Op):D:=.obj [.int x.kind,.str x.name,.seq 9 (x.vars.map Vd.d),.seq 3 (x.dirs.map Dir.d),.seq 7 (x.sels.map Sel.d),.int x.at_]
def Fr.d (x:Fr):D:=.obj [.str x.name,.str x.on,.seq 3 (x.dirs.map Dir.d),.seq 7 (x.sels.map Sel.d),.int x.at_]
end Qr
def D.one:D→Bool
 | .obj _=>false
 | _=>true
theorem Reads.one_cell {w:World} {P:Nat→Prop} {d:D} {cs:List Value} (h:Reads w P d cs) (hd:d.one=true):∃v,cs=[v]:=by
 cases h with
 | int n=>exact⟨_,rfl⟩
 | str s=>exact⟨_,rfl⟩
 | bool b=>exact⟨_,rfl⟩
 | obj h=>cases hd
 | seq h=>exact⟨_,rfl⟩
theorem Ac.set {w:World} {P:Nat→Prop} {d:D} {v:Value} (hv:Reads w P d [v]):∀{ds:List D} {cs:List Value} (j:Nat),Ac w P ds cs→ds.all D.one=true→Ac w P (ds.set j d) (cs.set j v)
 | [],_,j,.nil,_=>by cases j<;>exact .nil
 | x::ds,_,0,.cons h t,ho=>by
  rw[List.all_cons,Bool.and_eq_true]at ho;obtain⟨u,rfl⟩:=h.one_cell ho.1;exact .cons hv t
 | x::ds,_,j+1,.cons h t,ho=>by
  rw[List.all_cons,Bool.and_eq_true]at ho;obtain⟨u,rfl⟩:=h.one_cell ho.1;exact .cons h (Ac.set hv j t ho.2)
structure FI (w0:World) (b g t6:Nat) (bx:List Box) (T6:TypeId) (ds:List D) (cs:List Value) (s:Rd.St) (w:World):Prop where
 bi:BI w0 b g t6 bx T6 cs.toArray s w
 rr:Ac w (λx=>t6<x) ds cs
section
variable {w0 w w' : World} {b g t6 : Nat} {bx : List Box} {T6 : TypeId} {ds : List D} {cs : List Value} {s s' : Rd.St}
theorem FI.rd (h:FI w0 b g t6 bx T6 ds cs s w):AL w b g s:=h.bi.rd
theorem FI.step (h:FI w0 b g t6 bx T6 ds cs s w) (hr:AL w' b g s') (hf:Fr b w w'):FI w0 b g t6 bx T6 ds cs s' w' :=
 ⟨h.bi.step hr hf,h.rr.to ⟨hf.size,λx hx hp=>⟨hp,hf.block x hx (by have A:=h.bi.l6;have o:=h.bi.lb;have B:t6<x:=hp;omega)⟩⟩⟩
theorem FI.below (h:FI w0 b g t6 bx T6 ds cs s w) (hb:Below w.heap.size w w'):FI w0 b g t6 bx T6 ds cs s w':=h.step (h.rd.below hb) (But.of_below hb)
theorem FI.put (h:FI w0 b g t6 bx T6 ds cs s w) (j:Nat) {d:D} {v:Value} (hv:Reads w (λx=>t6<x) d [v]) (ho:ds.all D.one=true):FI w0 b g t6 bx T6 (ds.set j d) (cs.set j v) s (w.setCell ⟨t6,j,none⟩ v):=by
 refine⟨?_,(h.rr.set hv j ho).to ⟨by rw[AU];exact QM _,λx hx hp=>⟨hp,AK (by have o:t6<x:=hp;omega)⟩⟩⟩;have:=h.bi.put j v
 rwa [List.setIfInBounds_toArray]at this
theorem FI.data (h:FI w0 b g t6 bx T6 ds cs s w) {d:D} {us:List Value} (hd:Reads w' (λx=>w.heap.size≤x) d us):Reads w' (λx=>t6<x) d us :=
 hd.to (AE.sub w' (λx _ hp=>by have A:=block_lt h.bi.b6;have o:w.heap.size≤x:=hp;show t6<x;omega))
theorem FI.fin {r:Nat} {o:Obj} (h:FI w0 b g t6 bx T6 ds cs s w) (hr:(r,o)∈bx) :
  Reads (putCells w r 0 cs) (λx=>w0.heap.size≤x) (.obj ds) cs∧AL (putCells w r 0 cs) b g s∧Fr b w0 (putCells w r 0 cs) :=
 h.bi.fin hr (.obj h.rr) (λx hx=>hx)
theorem FI.start {w1 w2:World} {T:TypeId} {zs:Array Value} (hr:AL w2 b g s) (hf:Fr b (w.alloc (.cells zs T)) w2) (hl:b<w.heap.size∧g<w.heap.size) (hw:w1=w2.alloc (.cells cs.toArray T6)) (hd:Ac w1 (λx=>w2.heap.size<x) ds cs) :
  FI w b g w2.heap.size [(w.heap.size,.cells zs T (0,0))] T6 ds cs s w1:=by
 have B:=hf.size;have A:(w.alloc (.cells zs T)).heap.size=w.heap.size+1:=by simp
 have o:Below w2.heap.size w2 w1:=by rw[hw];exact (Below.refl _ _).alloc (QM _) _
 refine⟨⟨hr.below o,λp hp=>?_,by rw[hw];exact AC _ _,((But.of_below ((Below.refl _ _).alloc (QM _) _)).trans hf).trans (But.of_below o),hl.1,hl.2,λp hp=>?_,by omega⟩,hd⟩
 ·rw[QB.1 hp];show w1.heap[w.heap.size]?=_;rw[o.block w.heap.size (by omega),hf.block w.heap.size (by omega) (by omega)];exact AC _ _
 ·rw[QB.1 hp];show w.heap.size≤w.heap.size∧w.heap.size<w2.heap.size;omega
end
theorem NV:(Tryz.prog.info? 171).map (λi=>(i.zero,i.size,i.bytes))=some (some (.agg #[.string ⟨#[]⟩,.slice none 0 0,.int .i64 0]),3,48):=by kernel_rfl
theorem Aw (w:World) (c:List UInt8) (v:ByteArray) (T:TypeId) (hv:v=⟨c.toArray⟩):Bh (w.alloc (.cells #[.string v] T)) (.slice (some ⟨w.heap.size,0,none⟩) 1 1) [c]:=by
 subst hv;exact Cr w [c] #[.string ⟨c.toArray⟩] T rfl
theorem Av (b g n:Nat) (hnb:n≤1600) (s:Rd.St) (w:World) (h:AL w b g s) (hn:s.rest.length≤n) (hd:0≤s.deep∧s.deep+n≤900000) :
  Calls Tryz.prog 174 #[.pointer (some ⟨b,0,none⟩)] w (MK b g w 3 ((Qr.dirs (n+1) s).2.map Qr.Dir.d) (Qr.dirs (n+1) s).1):=by
 obtain⟨i0,hi,aE,aP,aJ⟩:=info_parts NV;have H:=QA h;have HL:=QA h.rest_len;obtain⟨d0,d1⟩:=hd;clear h;go_enter Tryz.func174,Tryz.ntmps174;go_wp2_with fail
 go_loopg [3] (s.rest.length+2) (λk s3 wr=>∃(m:Nat) (o:Rd.St) (out:List Qr.Dir),k=m+1∧o.rest.length<m∧out.length+o.rest.length≤1502∧o.rest.length≤n∧o.deep=s.deep∧GI w b g 171 3 o s3 (out.map Qr.Dir.d) wr∧Qr.dirsGo (n+1) m o out=Qr.dirs (n+1) s)
 case atStart=>exact⟨s.rest.length+1,s,[],rfl,by omega,by have:=HL.out;simp;omega,hn,rfl,GI.nil H.out _ _,rfl⟩
 case round =>
  obtain⟨m,o,out,rfl,hm,bd,aM,av,hG,ag⟩:=hrel;obtain⟨va,vc,hv⟩:=hG.row.form;rw[QZ]at hv;subst hv;have R:=QA hG;have an:=QA ag;have ax:=QA av;have aq:Below wr.heap.size wr (wr.alloc (.cells #[.string ⟨#[64]⟩] 9)):=(Below.refl _ _).alloc (QM _) _;have F:=QA aq;clear hG ag av aq;go_wp2_with fail;refine (CG b g o _ [Qr.sAt] _ (R.out.rd.below F.out) (Aw wr Qr.sAt _ _ rfl) (by simp)).mono ?_;rintro r w2 ⟨rfl,hb2⟩;rw[show ([Qr.sAt].any (Rd.isS o))=Rd.isS o Qr.sAt by simp];have ab:=QA (But.of_below (X:=λk=>k=b) (F.out.trans (hb2.mono F.out.size)));have ae:=QA (R.out.rd.below (F.out.trans (hb2.mono F.out.size)));obtain⟨B,hB⟩:∃B,B=Rd.isS o Qr.sAt:=⟨_,rfl⟩
  have HB:=QA hB;rw[← hB];obtain⟨m',rfl⟩:∃m',m=m'+1:=⟨m-1,by omega⟩
  clear hB hb2;cases B
  ·have HE:Hid (Qr.dirs (n+1) s=(o,out)):=by
    rw[← an.out,Qr.dirsGo,if_neg (by rw[← HB.out];simp)];exact QA rfl
   go_wp2_with fail;go_ret;rw[HE.out];have ar:=R.out.step ae.out ab.out;exact⟨va,vc,by rw[QZ];rfl,by rw[QZ];exact ar.reads,ae.out,ar.fr⟩
  ·have aV:=QA (Rd.next_sign HB.out.symm);have aU:Hid (Qr.dirsGo (n+1) m' (Qr.dir (n+1) o).1 (out++[(Qr.dir (n+1) o).2])=Qr.dirs (n+1) s):=by
    rw[← an.out,Qr.dirsGo,if_pos HB.out.symm];exact QA rfl
   go_wp2_with fail;refine (AZ b g o w2 ae.out).mono ?_;rintro r w3 ⟨rfl,Y,f3⟩;obtain⟨C,ac⟩:∃x,x=(Rd.peek o).at_:=⟨_,rfl⟩
   rw[← ac];have aY:=QA ac;obtain⟨s3,Q⟩:∃x,x=Rd.next o:=⟨_,rfl⟩
   rw[← Q]at Y;have ad:=QA Q;have au:Hid (FI wr b g w3.heap.size [] 171 [.str [],.seq 7 [],.int C] [.string ⟨#[]⟩,.slice none 0 0,.int .i64 C] s3 (w3.alloc (.cells #[.string ⟨#[]⟩,.slice none 0 0,.int .i64 C] 171))):=by
    have ap:Below w3.heap.size w3 (w3.alloc (.cells #[.string ⟨#[]⟩,.slice none 0 0,.int .i64 C] 171)):=(Below.refl _ _).alloc (QM _) _;have h1:=ab.out.size;have h2:=f3.size;exact QA ⟨⟨Y.below ap,λp hp=>absurd hp (by simp),AC _ _,(ab.out.trans f3).trans (But.of_below ap),R.out.rd.lt.1,R.out.rd.lt.2,λp hp=>absurd hp (by simp),by omega⟩,.cons (.str []) (.cons (.seq (cap:=0) .nil) (.cons (.int _) .nil))⟩
   obtain⟨P,am⟩:∃x,x=w3.heap.size:=⟨_,rfl⟩
   clear Y f3 ac Q;go_wp2_with fail;refine (Aa b g s3 _ au.out.rd).mono ?_;rintro r w4 ⟨rfl,h4,f4⟩;have G:=au.out.step h4 f4;rw[← am]at G ⊢;clear am;obtain⟨s4,aa⟩:∃x,x=(Rd.name s3).1:=⟨_,rfl⟩
   obtain⟨D,Z⟩:∃x,x=(Rd.name s3).2:=⟨_,rfl⟩
   rw[← aa]at G;rw[← Z];have aN:=QA G;have U:=QA aa;have aS:=QA Z;have I:=QA (G.put 0 (.str D) rfl);clear h4 f4 G aa Z;obtain⟨y0,aH⟩:=cf1 aN.out.bi.b6 0 (.string ⟨#[]⟩);have aw:Hid (Rd.Ok o s4):=by rw[U.out,ad.out];exact QA ((Rd.ok_next o).trans (Rd.ok_name _))
   have al:Hid (s4.deep=s.deep):=by rw[U.out,Rd.name_deep,ad.out,Rd.next_deep];exact ax
   go_wp2_with fail;refine (C4 b g false n hnb s4 _ I.out.rd (Nat.le_trans aw.out.len aM) (by rw[al.out];omega)).mono ?_;rintro r w5 ⟨a5,c5,rfl,hrd,O,f5⟩;obtain⟨q,hq⟩:∃x,x=Rd.args false (n+1) s4:=⟨_,rfl⟩
   rw[← hq]at hrd O ⊢;have HQ:=QA hq;have ak:=QA (I.out.data hrd);have M:=QA (I.out.step O f5);have K:=QA (M.out.put 1 ak.out rfl);clear hrd O f5 hq y0 aH;obtain⟨E,aj⟩:∃x,x=q.2.length:=⟨_,rfl⟩
   rw[QZ,← aj]at ak K ⊢;clear aj;have y0:=AA M.out.bi.b6 0 (.string ⟨D.toArray⟩) rfl;obtain⟨y1,bg⟩:=cf1 M.out.bi.b6 1 (.slice none 0 0);have y2:=AA M.out.bi.b6 2 (.int .i64 C) rfl;have aB:=QA (show Ac (w5.setCell ⟨P,1,none⟩ (.slice a5 E c5)) (λx=>P<x) [.str D,.seq 7 (q.2.map Rd.A.d),.int C] [.string ⟨D.toArray⟩,.slice a5 E c5,.int .i64 C] from K.out.rr);have a3:=K.out.bi.l6;obtain⟨W,hW⟩:∃x,x=(w5.setCell ⟨P,1,none⟩ (.slice a5 E c5)).alloc (.cells #[.string ⟨D.toArray⟩,.slice a5 E c5,.int .i64 C] 171):=⟨_,rfl⟩
   have N:Below (w5.setCell ⟨P,1,none⟩ (.slice a5 E c5)).heap.size (w5.setCell ⟨P,1,none⟩ (.slice a5 E c5)) W:=by rw[hW];exact (Below.refl _ _).alloc (QM _) _
   have S:=K.out.below N;have J:=R.out.step S.rd S.bi.fr;obtain⟨⟨xs,hx,ay⟩,aR⟩:=J.row;rw[QZ]at hx;have aT:=QA J;have HX:=QA hx;have aK:=QA ay;have aG:Hid (Reads W (λx=>w.heap.size≤x∧(Value.slice va out.length vc).ownBlock≠some x) (Qr.Dir.d ⟨D,q.2,C⟩) [.string ⟨D.toArray⟩,.slice a5 E c5,.int .i64 C]):=by
    refine QA (R.out.data ((Reads.obj aB.out).to ?_));exact⟨N.size,λx hx2 hp=>⟨by have Y:P<x:=hp;show wr.heap.size≤x;omega,N.block x hx2⟩⟩
   have ao:=QA (Ac.one aB.out);have ah:Hid (∀j u,([.string ⟨D.toArray⟩,.slice a5 E c5,.int .i64 C]:List Value)[j]?=some u→W.cell? ((⟨w5.heap.size,0,none⟩:Addr).add j)=some u):=by
    have:=Ad (w:=W) (L:=w5.heap.size) (fz:=(0,0)) (T:=171) (zs:=[.string ⟨D.toArray⟩,.slice a5 E c5,.int .i64 C]) (by rw[hW];have h9:=AC (w5.setCell ⟨P,1,none⟩ (.slice a5 E c5)) (.cells #[.string ⟨D.toArray⟩,.slice a5 E c5,.int .i64 C] 171);rw[AU]at h9;exact h9);exact QA this
   have V:w.heap.size≤W.heap.size:=J.fr.size;clear N S J hx ay aR HL;subst hW;go_wp2_with (first|(at_builtin;refine wpList_append_own_at _ rfl _ _ 93 rfl w.heap.size 171 i0 _ 3 48 Tryz.underlying93 hi aE aP aJ rfl (by decide) (.slice va out.length vc) out.length xs rfl HX.out ⟨w5.heap.size,0,none⟩ 1 1 [.string ⟨D.toArray⟩,.slice a5 E c5,.int .i64 C] rfl rfl ah.out ao.out (by unfold maxLen;omega) (by omega) V ?_;intro v' w8 hrow8 hg8 hnil8 hloc8;clear hnil8;have aA:=QA hrow8;have aO:=QA hg8;have aF:=QA hloc8;clear hrow8 hg8 hloc8)|fail);go_roundg (m'+1)
   case measure=>omega
   case rel =>
    have hE:Qr.dir (n+1) o=(q.1,⟨D,q.2,C⟩):=by unfold Qr.dir;dsimp only;rw[← ad.out,← aS.out,← U.out,← HQ.out,← aY.out]
    have h1:=aV.out.1;have h2:=(Qr.ok_dir (n+1) o).len;have Y:=(Qr.dir_deep (n+1) o)
    have h4:=aU.out;have be:(Rd.next o).rest.length<o.rest.length:=h1;have O:(Qr.dir (n+1) o).1.rest.length≤(Rd.next o).rest.length:=((Rd.ok_name (Rd.next o)).trans (Rd.ok_args false (n+1) _)).len;rw[hE]at h2 Y h4 O;refine⟨m',q.1,out++[⟨D,q.2,C⟩],rfl,by simp only at O;omega,by rw[List.length_append];simp only[List.length_singleton]at O ⊢;omega,by simp only at O;omega,by rw[← ax.out];exact Y,?_,h4⟩;rw[List.map_append];exact aT.out.more (by rw[QZ];exact HX.out) aK.out aG.out rfl aO.out aF.out (by rw[QZ];exact aA.out)
theorem OD (b g:Nat) (s:Rd.St) (w:World) (h:AL w b g s) :
  Calls Tryz.prog 173 #[.pointer (some ⟨b,0,none⟩)] w λr w'=>r=.returned (.string ⟨(Qr.but s).2.toArray⟩)∧AL w' b g (Qr.but s).1∧Fr b w w':=by
 have H:=QA h;have C:Below w.heap.size w (w.alloc (.cells #[.string ⟨#[111,110]⟩] 9)):=(Below.refl _ _).alloc (QM _) _;have o:=QA C;clear C h;go_enter Tryz.func173,Tryz.ntmps173;go_wp2_with fail;refine (Au b g s _ [Qr.sOn] _ (H.out.below o.out) (Aw w Qr.sOn _ _ rfl) (by simp)).mono ?_;rintro r w2 ⟨rfl,hb2⟩;have A:=QA (o.out.trans (hb2.mono o.out.size));have G:=QA (H.out.below A.out);obtain⟨B,hB⟩:∃B,B=Rd.isW s [Qr.sOn]:=⟨_,rfl⟩
 have I:=QA hB;rw[← hB];clear hB hb2;cases B
 ·have E:Hid (Qr.but s=Rd.name s):=by unfold Qr.but;rw[if_neg (by rw[← I.out];simp)];exact QA rfl
  go_wp2_with fail;refine (Aa b g _ w2 G.out).mono ?_;rintro r w3 ⟨rfl,h3,f3⟩;have F:=QA h3;have D:=QA f3;clear h3 f3;go_wp2_with fail;go_ret;rw[E.out];exact⟨rfl,F.out,(But.of_below A.out).trans D.out⟩
 ·have E:Hid (Qr.but s=Rd.name (Rd.wrong s)):=by unfold Qr.but;rw[if_pos I.out.symm];exact QA rfl
  go_wp2_with fail;refine (A7 b g _ w2 G.out).mono ?_;rintro r w4 ⟨rfl,h4,f4⟩;have K:=QA h4;have J:=QA f4;clear h4 f4;go_wp2_with fail;refine (Aa b g _ w4 K.out).mono ?_;rintro r w3 ⟨rfl,h3,f3⟩;have F:=QA h3;have D:=QA f3;clear h3 f3;go_wp2_with fail;go_ret;rw[E.out];exact⟨rfl,F.out,((But.of_below A.out).trans J.out).trans D.out⟩
theorem Di (b g:Nat) (n:Nat) (hnb:n≤1600) (s:Rd.St) (w:World) (h:AL w b g s) (hn:s.err≠0∨s.rest.length≤n) (hd:0≤s.deep∧s.deep+n≤900000) :
  Calls Tryz.prog 177 #[.pointer (some ⟨b,0,none⟩)] w (Got b g w (Qr.variable_ (n+1) s).2.d (Qr.variable_ (n+1) s).1):=by
 have bk:=h.lt;have H:=QA h;have HN:=QA hn;obtain⟨d0,d1⟩:=hd;have ba:Below w.heap.size w (w.alloc (.cells #[.string ⟨#[]⟩,.string ⟨#[]⟩,.bool false,.int .i64 0,.string ⟨#[]⟩,.slice none 0 0,.slice none 0 0,.int .i64 0,.int .i64 0] 100)):=(Below.refl _ _).alloc (QM _) _;have ao:=QA ba;clear h hn ba;go_enter Tryz.func177,Tryz.ntmps177;go_wp2_with fail;refine (A2 b g s _ (H.out.below ao.out)).mono ?_;rintro r w2 ⟨rfl,hb2⟩;obtain⟨C,aB⟩:∃x,x=(Rd.peek s).at_:=⟨_,rfl⟩
 rw[← aB];have bj:=QA aB;have aX:BI w b g w2.heap.size [(w.heap.size,.cells #[.string ⟨#[]⟩,.string ⟨#[]⟩,.bool false,.int .i64 0,.string ⟨#[]⟩,.slice none 0 0,.slice none 0 0,.int .i64 0,.int .i64 0] 100 (0,0))] 100 #[.string ⟨#[]⟩,.string ⟨#[]⟩,.bool false,.int .i64 0,.string ⟨#[]⟩,.slice none 0 0,.slice none 0 0,.int .i64 0,.int .i64 C] s (w2.alloc (.cells #[.string ⟨#[]⟩,.string ⟨#[]⟩,.bool false,.int .i64 0,.string ⟨#[]⟩,.slice none 0 0,.slice none 0 0,.int .i64 0,.int .i64 C] 100)):=by
  have bJ:(w.alloc (.cells #[.string ⟨#[]⟩,.string ⟨#[]⟩,.bool false,.int .i64 0,.string ⟨#[]⟩,.slice none 0 0,.slice none 0 0,.int .i64 0,.int .i64 0] 100)).heap.size=w.heap.size+1:=by simp
  have bK:=hb2.size;have ax:Below w2.heap.size w2 (w2.alloc (.cells #[.string ⟨#[]⟩,.string ⟨#[]⟩,.bool false,.int .i64 0,.string ⟨#[]⟩,.slice none 0 0,.slice none 0 0,.int .i64 0,.int .i64 C] 100)):=(Below.refl _ _).alloc (QM _) _;refine⟨((H.out.below ao.out).below hb2).below ax,λp hp=>?_,AC _ _,((But.of_below ao.out).trans (But.of_below hb2)).trans (But.of_below ax),bk.1,bk.2,λp hp=>?_,by omega⟩
  ·simp only[QB]at hp;subst hp;show (w2.alloc _).heap[w.heap.size]?=_;rw[ax.block w.heap.size (by omega),hb2.block w.heap.size (by omega)];exact AC _ _
  ·simp only[QB]at hp;subst hp;simp only;omega
 have aV:=QA aX;obtain⟨G,av⟩:∃x,x=w2.heap.size:=⟨_,rfl⟩
 have bL:=QA av;clear hb2 aX aB;go_wp2_with fail;refine (BN b g s Rd.dollar _ aV.out.rd).mono ?_;rintro r w1 ⟨rfl,h1,f1⟩;have ac:=aV.out.step h1 f1;rw[← av]at ac ⊢;clear av;obtain⟨s1,ak⟩:∃x,x=Rd.want Rd.dollar s:=⟨_,rfl⟩
 rw[← ak]at ac;have ad:=QA ak;have a6:=QA ac;have aR:Hid (Rd.Ok s s1):=by rw[ad.out];exact QA (Rd.ok_want _ s)
 have aT:Hid (s1.deep=s.deep):=by rw[ad.out];exact QA (Rd.want_deep _ s)
 clear h1 f1 ac ak;go_wp2_with fail;refine (Aa b g s1 _ a6.out.rd).mono ?_;rintro r w3 ⟨rfl,h3,f3⟩;have ab:=a6.out.step h3 f3;obtain⟨s3,al⟩:∃x,x=(Rd.name s1).1:=⟨_,rfl⟩
 obtain⟨D,au⟩:∃x,x=(Rd.name s1).2:=⟨_,rfl⟩
 rw[← al]at ab;rw[← au];have ae:=QA al;have be:=QA au;have bb:=QA ab;have l6:=ab.lx _ (QB.2 rfl);simp only at l6;have n1:¬G=w.heap.size:=by omega
 have n2:¬w.heap.size=G:=by omega
 have a0:Hid (Rd.Ok s s3):=by rw[ae.out];exact QA (aR.out.trans (Rd.ok_name s1))
 have a7:Hid (s3.deep=s.deep):=by rw[ae.out,Rd.name_deep,aT.out];exact QA rfl
 clear h3 f3 ab al au;obtain⟨y0,L,y1,R,y2,J,y3,M,y4,O,y5,S,y6,N,y7,P,y8,K⟩:=cf9 bb.out.b6 (.string ⟨#[]⟩) (.string ⟨#[]⟩) (.bool false) (.int .i64 0) (.string ⟨#[]⟩) (.slice none 0 0) (.slice none 0 0) (.int .i64 0) (.int .i64 C);have a3:=QA (bb.out.put 0 (.string ⟨D.toArray⟩));go_wp2_with fail;refine (BN b g s3 Rd.colon _ a3.out.rd).mono ?_;rintro r w5 ⟨rfl,h5,f5⟩;have am:=QA (a3.out.step h5 f5);obtain⟨s5,aD⟩:∃x,x=Rd.want Rd.colon s3:=⟨_,rfl⟩
 rw[← aD]at am;have Z:=QA aD;have Y:Hid (Rd.Ok s s5):=by rw[Z.out];exact QA (a0.out.trans (Rd.ok_want _ s3))
 have ag:Hid (s5.deep=s.deep):=by rw[Z.out,Rd.want_deep,a7.out];exact QA rfl
 have bE:Hid (s5.err≠0∨s5.rest.length≤n):=by
  refine QA ?_;rcases HN.out with h|h
  ·left;rw[Y.out.err h];exact h
  ·right;exact Nat.le_trans Y.out.len h
 clear h5 f5 aD;clear y0 L y1 R y2 J y3 M y4 O y5 S y6 N y7 P y8 K;go_wp2_with fail;refine (Fv b g n s5 w5 am.out.rd bE.out hnb (by rw[ag.out];omega)).mono ?_;rintro r w6 ⟨rfl,h6,f6⟩;obtain⟨A,ay⟩:∃x,x=(Rd.type (n+1) s5).1:=⟨_,rfl⟩
 obtain⟨I,aF⟩:∃x,x=(Rd.type (n+1) s5).2:=⟨_,rfl⟩
 have aA:=am.out.step h6 f6;rw[← ay]at aA;rw[← aF];have aa:=QA ay;have aS:=QA aF;have aZ:=QA aA;have af:Hid (Rd.Ok s A):=by rw[aa.out];exact QA (Y.out.trans (Rd.ok_type _ s5))
 have bd:Hid (A.deep=s.deep):=by rw[aa.out,Rd.type_deep,ag.out];exact QA rfl
 clear h6 f6 aA ay aF;obtain⟨y0,L,y1,R,y2,J,y3,M,y4,O,y5,S,y6,N,y7,P,y8,K⟩:=cf9 aZ.out.b6 (.string ⟨D.toArray⟩) (.string ⟨#[]⟩) (.bool false) (.int .i64 0) (.string ⟨#[]⟩) (.slice none 0 0) (.slice none 0 0) (.int .i64 0) (.int .i64 C);have bi:=QA (aZ.out.put 1 (.string ⟨I.toArray⟩));go_wp2_with fail;refine (BO b g A Qr.sEq _ bi.out.rd).mono ?_;rintro r w8 ⟨rfl,h8,f8⟩;have aE:=QA (bi.out.step h8 f8);obtain⟨B,hB⟩:∃B,B=Rd.isS A Qr.sEq:=⟨_,rfl⟩
 have HB:=QA hB;rw[← hB];have bh:=QA (aE.out.put 2 (.bool B));clear h8 f8 hB;clear y0 L y1 R y2 J y3 M y4 O y5 S y6 N y7 P y8 K;obtain⟨y0,L,y1,R,y2,J,y3,M,y4,O,y5,S,y6,N,y7,P,y8,K⟩:=cf9 aE.out.b6 (.string ⟨D.toArray⟩) (.string ⟨I.toArray⟩) (.bool false) (.int .i64 0) (.string ⟨#[]⟩) (.slice none 0 0) (.slice none 0 0) (.int .i64 0) (.int .i64 C);obtain⟨z0,bc,z1,bl,z2,bg,z3,aQ,z4,aU,z5,a4,z6,aY,z7,a9,z8,a8⟩:=cf9 (aE.out.cb (w.heap.size,.cells #[.string ⟨#[]⟩,.string ⟨#[]⟩,.bool false,.int .i64 0,.string ⟨#[]⟩,.slice none 0 0,.slice none 0 0,.int .i64 0,.int .i64 0] 100 (0,0)) (by simp)) (.string ⟨#[]⟩) (.string ⟨#[]⟩) (.bool false) (.int .i64 0) (.string ⟨#[]⟩) (.slice none 0 0) (.slice none 0 0) (.int .i64 0) (.int .i64 0);cases B
 ·have HT:Hid (Rd.take Qr.sEq A=A):=by unfold Rd.take;rw[if_neg (by rw[← HB.out];simp)];exact QA rfl
  have HE:Hid (Qr.variable_ (n+1) s=(A,⟨D,I,false,Rd.V.none,C⟩)):=by
   have ap:Qr.dflt (n+1) A=(A,Rd.V.none):=by unfold Qr.dflt;rw[if_neg (by rw[← HB.out];simp)]
   refine QA ?_;unfold Qr.variable_
   dsimp only
   rw[← ad.out,← ae.out,← be.out,← Z.out,← aa.out,← aS.out,← bj.out,← HB.out,ap]
  have aj:Hid (BI w b g G [(w.heap.size,.cells #[.string ⟨#[]⟩,.string ⟨#[]⟩,.bool false,.int .i64 0,.string ⟨#[]⟩,.slice none 0 0,.slice none 0 0,.int .i64 0,.int .i64 0] 100 (0,0))] 100 [.string ⟨D.toArray⟩,.string ⟨I.toArray⟩,.bool false,.int .i64 0,.string ⟨#[]⟩,.slice none 0 0,.slice none 0 0,.int .i64 0,.int .i64 C].toArray A (w8.setCell ⟨G,2,none⟩ (.bool false))):=by
   have:=bh.out;rw[HT.out]at this;exact QA this
  have aC:Hid (Reads (w8.setCell ⟨G,2,none⟩ (.bool false)) (λ_=>False) (Qr.Vd.d ⟨D,I,false,Rd.V.none,C⟩) [.string ⟨D.toArray⟩,.string ⟨I.toArray⟩,.bool false,.int .i64 0,.string ⟨#[]⟩,.slice none 0 0,.slice none 0 0,.int .i64 0,.int .i64 C]):=by
   unfold Qr.Vd.d;exact QA (.obj (.cons (.str _) (.cons (.str _) (.cons (.bool _) (.cons (Ap _ 0 0 []) (.cons (.int _) .nil))))))
  have o:=aj.out.fin (r:=w.heap.size) (QB.2 rfl) aC.out (λx hx=>hx.elim);simp only[putCells,Nat.reduceAdd,Nat.zero_add]at o;have ar:=QA o;clear o;go_wp2_with fail;refine bodyPost_ret (v:=.agg #[.string ⟨D.toArray⟩,.string ⟨I.toArray⟩,.bool false,.int .i64 0,.string ⟨#[]⟩,.slice none 0 0,.slice none 0 0,.int .i64 0,.int .i64 C]) (by simp[results,Tryz.results177,go_sem,z0,z1,z2,z3,z4,z5,z6,z7,z8,n1,n2]) rfl ?_;rw[HE.out];exact⟨_,rfl,ar.out⟩
 ·have HT:Hid (Rd.take Qr.sEq A=Rd.next A):=by unfold Rd.take;rw[if_pos HB.out.symm];exact QA rfl
  have bC:=QA (Rd.next_sign HB.out.symm);have bz:Hid ((Rd.next A).rest.length≤n):=by
   refine QA ?_;have h6:=af.out.len;have h7:=bC.out.1;rcases HN.out with h|h
   ·have:=af.out.err h;have hz:=HB.out;rw[Rd.isS_err (by rw[this];exact h)]at hz;cases hz
   ·omega
  have W:Hid (BI w b g G [(w.heap.size,.cells #[.string ⟨#[]⟩,.string ⟨#[]⟩,.bool false,.int .i64 0,.string ⟨#[]⟩,.slice none 0 0,.slice none 0 0,.int .i64 0,.int .i64 0] 100 (0,0))] 100 #[.string ⟨D.toArray⟩,.string ⟨I.toArray⟩,.bool true,.int .i64 0,.string ⟨#[]⟩,.slice none 0 0,.slice none 0 0,.int .i64 0,.int .i64 C] (Rd.next A) (w8.setCell ⟨G,2,none⟩ (.bool true))):=by
   have:=bh.out;rw[HT.out]at this;exact QA this
  have bD:=QA (Rd.next_deep A);go_wp2_with fail;refine (DU b g true n hnb (Rd.next A) _ W.out.rd bz.out (by rw[bD.out,bd.out];omega)).mono ?_;rintro r w10 ⟨cs,rfl,hrd,hr10,hf10⟩;obtain⟨k,a,t,a1,a2,F,c1,E,c2,rfl⟩:=Dp hrd;obtain⟨an,U⟩:∃x,x=(Rd.value true (n+1) (Rd.next A)).1:=⟨_,rfl⟩
  obtain⟨aw,T⟩:∃x,x=(Rd.value true (n+1) (Rd.next A)).2:=⟨_,rfl⟩
  rw[← U]at hr10;rw[← T]at hrd;have aW:=QA U;have bf:=QA T;have X:=QA (W.out.step hr10 hf10);have bv:=block_lt W.out.b6;have bA:=QA (hrd.to (w':=putCells w10 G 3 [.int .i64 k,.string t,.slice a1 F c1,.slice a2 E c2,.int .i64 a]) (Q:=λx=>G<x) ⟨by rw[AV];exact QM _,λx hx hp=>⟨Nat.lt_of_lt_of_le bv hp,AX _ _ (by have:(w8.setCell ⟨G,2,none⟩ (.bool true)).heap.size≤x:=hp;omega) _ _ _⟩⟩);have HE:Hid (Qr.variable_ (n+1) s=(an,⟨D,I,true,aw,C⟩)):=by
   have ap:Qr.dflt (n+1) A=(an,aw):=by unfold Qr.dflt;rw[if_pos HB.out.symm,aW.out,bf.out]
   refine QA ?_;unfold Qr.variable_
   dsimp only
   rw[← ad.out,← ae.out,← be.out,← Z.out,← aa.out,← aS.out,← bj.out,← HB.out,ap]
  have aC:Hid (Reads (putCells w10 G 3 [.int .i64 k,.string t,.slice a1 F c1,.slice a2 E c2,.int .i64 a]) (λx=>G<x) (Qr.Vd.d ⟨D,I,true,aw,C⟩) [.string ⟨D.toArray⟩,.string ⟨I.toArray⟩,.bool true,.int .i64 k,.string t,.slice a1 F c1,.slice a2 E c2,.int .i64 a,.int .i64 C]):=by
   unfold Qr.Vd.d;exact QA (.obj (.cons (.str _) (.cons (.str _) (.cons (.bool _) (.cons bA.out (.cons (.int _) .nil))))))
  have aj:Hid (BI w b g G [(w.heap.size,.cells #[.string ⟨#[]⟩,.string ⟨#[]⟩,.bool false,.int .i64 0,.string ⟨#[]⟩,.slice none 0 0,.slice none 0 0,.int .i64 0,.int .i64 0] 100 (0,0))] 100 [.string ⟨D.toArray⟩,.string ⟨I.toArray⟩,.bool true,.int .i64 k,.string t,.slice a1 F c1,.slice a2 E c2,.int .i64 a,.int .i64 C].toArray an (putCells w10 G 3 [.int .i64 k,.string t,.slice a1 F c1,.slice a2 E c2,.int .i64 a])) :=
   QA (((((X.out.put 3 (.int .i64 k)).put 4 (.string t)).put 5 (.slice a1 F c1)).put 6 (.slice a2 E c2)).put 7 (.int .i64 a))
  have o:=aj.out.fin (r:=w.heap.size) (QB.2 rfl) aC.out (λx hx=>hx);simp only[putCells,Nat.reduceAdd,Nat.zero_add]at o;have ar:=QA o;clear y0 L z0 bc y1 R z1 bl y2 J z2 bg y3 M z3 aQ y4 O z4 aU y5 S z5 a4 y6 N z6 aY y7 P z7 a9 y8 K z8 a8;clear o hrd hr10 hf10 U T;obtain⟨y0,L,y1,R,y2,J,y3,M,y4,O,y5,S,y6,N,y7,P,y8,K⟩:=cf9 X.out.b6 (.string ⟨D.toArray⟩) (.string ⟨I.toArray⟩) (.bool true) (.int .i64 0) (.string ⟨#[]⟩) (.slice none 0 0) (.slice none 0 0) (.int .i64 0) (.int .i64 C);obtain⟨z0,bc,z1,bl,z2,bg,z3,aQ,z4,aU,z5,a4,z6,aY,z7,a9,z8,a8⟩:=cf9 (X.out.cb _ (QB.2 rfl)) (.string ⟨#[]⟩) (.string ⟨#[]⟩) (.bool false) (.int .i64 0) (.string ⟨#[]⟩) (.slice none 0 0) (.slice none 0 0) (.int .i64 0) (.int .i64 0);go_wp2_with fail;refine bodyPost_ret (v:=.agg #[.string ⟨D.toArray⟩,.string ⟨I.toArray⟩,.bool true,.int .i64 k,.string t,.slice a1 F c1,.slice a2 E c2,.int .i64 a,.int .i64 C]) (by simp[results,Tryz.results177,go_sem,z0,z1,z2,z3,z4,z5,z6,z7,z8,n1,n2]) rfl ?_;rw[HE.out];exact⟨_,rfl,ar.out⟩
end Go.Proofs.YtefjgpkpplkkgaaGreatDoor
