/-
  The writer of documents: whether a value has variables, and how deep it is, walked. A word's place among words; a part of code; the frame of a call behind new blocks. Types as data: what their cells hold.
-/
import Derived.Test.YtefjgpkpplkkgaaGreatDoorZp5
import Derived.Test.YtefjgpkpplkkgaaGreatDoorZp18
import Derived.Test.YtefjgpkpplkkgaaGreatDoorZp13
import Derived.Lib.SlicesS
open Go.Lib renaming hid → QA
open List renaming mem_of_getElem? → ZC, drop_eq_getElem_cons → ZE, drop_eq_nil_of_le → ZF, getElem?_map → ZI, getElem?_eq_getElem → ZJ
open Nat renaming zero_le → ZV
namespace Go.Proofs.YtefjgpkpplkkgaaGreatDoor
set_option linter.unusedSimpArgs false
set_option linter.unusedVariables false
open Go Go.RowKit
theorem below_box3 (w:World) (cs:Array Value) (T:TypeId):Below w.heap.size w (w.alloc (.cells cs T)):=(Below.refl _ _).alloc (Nat.le_refl _) _
def FixC (N:Nat):Prop:=∀ (z:Vl.Z),z.n≤N→∀ (a1 a2:Option Addr) (c1 c2:Nat) (w:World) (P:Nat→Prop),
 Reads w P z.d [.int .i64 z.kind,.string ⟨z.text.toArray⟩,.slice a1 z.items.length c1,.slice a2 z.fields.length c2,.int .i64 z.at_] →
 Calls Tryz.prog 180 #[.agg #[.int .i64 z.kind,.string ⟨z.text.toArray⟩,.slice a1 z.items.length c1,.slice a2 z.fields.length c2,.int .i64 z.at_]] w (fun r w'=>r=.returned (.bool z.nov)∧Below w.heap.size w w')
set_option maxHeartbeats 2000000 in
set_option maxRecDepth 100000 in
theorem fixed_step (N:Nat) (hNb:N≤1000000000) (IH:FixC N):FixC (N+1):=by
 intro z hN a1 a2 c1 c2 w P hR
 have av:=Vl.Z.n_eq z
 have aG:=Vl.Z.ns_len z.items
 have ax:=Vl.ZA.ns_len z.fields
 obtain ⟨x1,x2,x3,x4,ex,ao,ak⟩:=Z_open hR
 obtain ⟨rfl,rfl,rfl,rfl⟩:a1=x1∧c1=x3∧a2=x2∧c2=x4:=by simpa [and_assoc] using ex
 have hz:z.items.length≤1000000001:=by omega
 have hy:z.fields.length≤1000000001:=by omega
 have aD:Hid (∀ x∈z.items,x.n≤N):=QA (fun x hx=>by have:=Vl.Z.ns_mem hx;omega)
 have az:Hid (∀ x∈z.fields,x.v.n≤N):=QA (fun x hx=>by have:=Vl.ZA.ns_mem hx;have:=Vl.ZA.n_eq x;omega)
 obtain ⟨wc,W⟩:∃ q,q=w.alloc (.cells #[.int .i64 z.kind,.string ⟨z.text.toArray⟩,.slice a1 z.items.length c1,.slice a2 z.fields.length c2,.int .i64 z.at_] 25):=⟨_,rfl⟩
 have V:Below w.heap.size w wc:=by rw[W];exact below_box3 _ _ _
 have ap:wc.heap[w.heap.size]?=some (.cells #[.int .i64 z.kind,.string ⟨z.text.toArray⟩,.slice a1 z.items.length c1,.slice a2 z.fields.length c2,.int .i64 z.at_] 25 (0,0)):=by rw[W];exact heap_at_new _ _
 have aB:=QA W
 have ac:=QA V
 have U:=QA ap
 have aK:=QA (ao.to (Stands.below V))
 have aL:=QA (ak.to (Stands.below V))
 have al:=QA IH
 obtain ⟨S,hS⟩:∃ S,S=z.nov:=⟨_,rfl⟩
 obtain ⟨b0,X⟩:∃ b,b=(z.kind != 1):=⟨_,rfl⟩
 have HF:Hid (S=(b0&&(Vl.Z.novs z.items&&Vl.ZA.novs z.fields))):=QA (by rw[hS,Vl.Z.nov_eq,X];congr 1;by_cases h:z.kind=1<;>simp[h])
 rw[← hS]
 have aI:=QA X
 clear hR ex ao ak V W IH ap av aG ax hS X hN
 go_enter Tryz.func180,Tryz.ntmps180
 go_wp2_with fail
 rw[← aB.out]
 rw[← aI.out]
 go_loopg [3,14] (z.items.length+1) (fun k v i wr=>∃ (j:Nat) (b:Bool),k=z.items.length+1-j∧j≤z.items.length∧i=.int .i64 j∧v=.bool b∧S=(b&&(Vl.Z.novs (z.items.drop j)&&Vl.ZA.novs z.fields))∧Below wc.heap.size wc wr)
 case atStart=>exact ⟨0,b0,rfl,ZV _,rfl,rfl,HF.out,Below.refl _ _⟩
 case round =>
  obtain ⟨j,b,hk,hj,rfl,rfl,hs,I⟩:=hrel
  have HK:=QA hk
  have G:=QA hs
  have B:=QA (I)
  have K:=QA I
  have T:Hid (wr.heap[w.heap.size]?=some (.cells #[.int .i64 z.kind,.string ⟨z.text.toArray⟩,.slice a1 z.items.length c1,.slice a2 z.fields.length c2,.int .i64 z.at_] 25 (0,0))):=QA ((B.out.block _ (block_lt U.out)).trans U.out)
  clear hk hs I
  by_cases hjl:j<z.items.length
  ·have e5:decide (j<z.items.length)=true:=decide_eq_true hjl
   obtain ⟨p,L⟩:∃ x,z.items[j]?=some x:=⟨z.items[j],ZJ hjl⟩
   have M:z.items.drop j=p::z.items.drop (j+1):=by rw[ZE hjl];rw[ZJ hjl] at L;rw[Option.some.inj L]
   have Q:=aD.out p (ZC L)
   obtain ⟨g,o,cs,ha,-,D,R,A,hd⟩:=aK.out.el j p.d (by rw[ZI,L];rfl)
   have E:Hid (S=(b&&((p.nov&&Vl.Z.novs (z.items.drop (j+1)))&&Vl.ZA.novs z.fields))):=by have:=G.out;rw[M,Vl.Z.novs] at this;exact QA this
   obtain ⟨p1,p2,u1,u2,rfl,-,-⟩:=Z_open hd
   have k0:wr.cell? ⟨g,o+j*5,none⟩=_:=(B.out.cell (p:=⟨g,o+j*5,none⟩) D).trans (A 0 _ rfl)
   have k1:wr.cell? ⟨g,o+j*5+1,none⟩=_:=(B.out.cell (p:=⟨g,o+j*5+1,none⟩) D).trans (A 1 _ rfl)
   have k2:wr.cell? ⟨g,o+j*5+2,none⟩=_:=(B.out.cell (p:=⟨g,o+j*5+2,none⟩) D).trans (A 2 _ rfl)
   have k3:wr.cell? ⟨g,o+j*5+3,none⟩=_:=(B.out.cell (p:=⟨g,o+j*5+3,none⟩) D).trans (A 3 _ rfl)
   have k4:wr.cell? ⟨g,o+j*5+4,none⟩=_:=(B.out.cell (p:=⟨g,o+j*5+4,none⟩) D).trans (A 4 _ rfl)
   subst ha
   obtain ⟨wa,J⟩:∃ q,q=wr.alloc (.cells #[.int .i64 p.kind,.string ⟨p.text.toArray⟩,.slice p1 p.items.length u1,.slice p2 p.fields.length u2,.int .i64 p.at_] 25):=⟨_,rfl⟩
   have H:Below wr.heap.size wr wa:=by rw[J];exact below_box3 _ _ _
   have C:=QA (al.out p Q p1 p2 u1 u2 wa P (hd.to (Stands.below (B.out.trans (H.mono B.out.size)))))
   have F:=QA (K.out.trans (H.mono K.out.size))
   rw[J] at C F
   clear L M R A hd G Q J H
   obtain ⟨qv,O⟩:∃ r,r=p.nov:=⟨_,rfl⟩
   rw[← O] at C E
   clear O
   cases b
   ·go_wp2_with fail
    go_roundg (z.items.length+1-(j+1))
    case measure=>rw[HK.out];omega
    case rel=>exact ⟨j+1,false,rfl,hjl,by go_num,rfl,by rw[E.out];rfl,F.out⟩
   go_wp2_with fail
   refine C.out.mono ?_
   rintro e w6 ⟨rfl,hb6⟩
   have Y:=QA (F.out.trans (hb6.mono F.out.size))
   clear hb6 k0 k1 k2 k3 k4 C
   go_wp2_with fail
   go_roundg (z.items.length+1-(j+1))
   case measure=>rw[HK.out];omega
   case rel=>exact ⟨j+1,qv,rfl,hjl,by go_num,rfl,by rw[E.out];cases qv<;>rfl,Y.out⟩
  ·have e5:decide (j<z.items.length)=false:=decide_eq_false hjl
   have E:Hid (S=(b&&Vl.ZA.novs z.fields)):=by
    have:=G.out
    rw[ZF (by omega),Vl.Z.novs,Bool.true_and] at this
    exact QA this
   have z3:wr.cell? ⟨w.heap.size,3,none⟩=some (.slice a2 z.fields.length c2):=blk_cell T.out 3 _ rfl
   obtain ⟨w5,ah⟩:∃ q,q=wr:=⟨_,rfl⟩
   rw[← ah] at B z3 T ⊢
   have ai:=B
   clear ah B K T HK G
   go_wp2_with fail
   go_loopg [3,27] (z.fields.length+1) (fun k v i wr=>∃ (j:Nat) (b:Bool),k=z.fields.length+1-j∧j≤z.fields.length∧i=.int .i64 j∧v=.bool b∧S=(b&&Vl.ZA.novs (z.fields.drop j))∧Below w5.heap.size w5 wr)
   case atStart=>exact ⟨0,b,rfl,ZV _,rfl,rfl,E.out,Below.refl _ _⟩
   case round =>
    obtain ⟨j,b,hk,hj,rfl,rfl,hs,I⟩:=hrel
    have HK:=QA hk
    have G:=QA hs
    have B:=QA (ai.out.trans (I.mono ai.out.size))
    have K:=QA I
    have T:Hid (wr.heap[w.heap.size]?=some (.cells #[.int .i64 z.kind,.string ⟨z.text.toArray⟩,.slice a1 z.items.length c1,.slice a2 z.fields.length c2,.int .i64 z.at_] 25 (0,0))):=QA ((B.out.block _ (block_lt U.out)).trans U.out)
    clear hk hs I
    by_cases hjl:j<z.fields.length
    ·have e5:decide (j<z.fields.length)=true:=decide_eq_true hjl
     obtain ⟨p,L⟩:∃ x,z.fields[j]?=some x:=⟨z.fields[j],ZJ hjl⟩
     have M:z.fields.drop j=p::z.fields.drop (j+1):=by rw[ZE hjl];rw[ZJ hjl] at L;rw[Option.some.inj L]
     have Q:=az.out p (ZC L)
     obtain ⟨g,o,cs,ha,-,D,R,A,hd⟩:=aL.out.el j p.d (by rw[ZI,L];rfl)
     have E:Hid (S=(b&&(p.v.nov&&Vl.ZA.novs (z.fields.drop (j+1))))):=by have:=G.out;rw[M,Vl.ZA.novs_cons] at this;exact QA this
     obtain ⟨p1,p2,u1,u2,rfl,ad⟩:=ZA_open hd
     have k0:wr.cell? ⟨g,o+j*7,none⟩=_:=(B.out.cell (p:=⟨g,o+j*7,none⟩) D).trans (A 0 _ rfl)
     have k1:wr.cell? ⟨g,o+j*7+1,none⟩=_:=(B.out.cell (p:=⟨g,o+j*7+1,none⟩) D).trans (A 1 _ rfl)
     have k2:wr.cell? ⟨g,o+j*7+2,none⟩=_:=(B.out.cell (p:=⟨g,o+j*7+2,none⟩) D).trans (A 2 _ rfl)
     have k3:wr.cell? ⟨g,o+j*7+3,none⟩=_:=(B.out.cell (p:=⟨g,o+j*7+3,none⟩) D).trans (A 3 _ rfl)
     have k4:wr.cell? ⟨g,o+j*7+4,none⟩=_:=(B.out.cell (p:=⟨g,o+j*7+4,none⟩) D).trans (A 4 _ rfl)
     have k5:wr.cell? ⟨g,o+j*7+5,none⟩=_:=(B.out.cell (p:=⟨g,o+j*7+5,none⟩) D).trans (A 5 _ rfl)
     have k6:wr.cell? ⟨g,o+j*7+6,none⟩=_:=(B.out.cell (p:=⟨g,o+j*7+6,none⟩) D).trans (A 6 _ rfl)
     subst ha
     obtain ⟨wa,J⟩:∃ q,q=wr.alloc (.cells #[.string ⟨p.name.toArray⟩,.int .i64 p.v.kind,.string ⟨p.v.text.toArray⟩,.slice p1 p.v.items.length u1,.slice p2 p.v.fields.length u2,.int .i64 p.v.at_,.int .i64 p.at_] 72):=⟨_,rfl⟩
     have H:Below wr.heap.size wr wa:=by rw[J];exact below_box3 _ _ _
     have C:=QA (al.out p.v Q p1 p2 u1 u2 wa P (ad.to (Stands.below (B.out.trans (H.mono B.out.size)))))
     have F:=QA (K.out.trans (H.mono K.out.size))
     rw[J] at C F
     clear L M R A hd ad G Q J H
     obtain ⟨qv,O⟩:∃ r,r=p.v.nov:=⟨_,rfl⟩
     rw[← O] at C E
     clear O
     cases b
     ·go_wp2_with fail
      go_roundg (z.fields.length+1-(j+1))
      case measure=>rw[HK.out];omega
      case rel=>exact ⟨j+1,false,rfl,hjl,by go_num,rfl,by rw[E.out];rfl,F.out⟩
     go_wp2_with fail
     refine C.out.mono ?_
     rintro e w6 ⟨rfl,hb6⟩
     have Y:=QA (F.out.trans (hb6.mono F.out.size))
     clear hb6 k0 k1 k2 k3 k4 k5 k6 C
     go_wp2_with fail
     go_roundg (z.fields.length+1-(j+1))
     case measure=>rw[HK.out];omega
     case rel=>exact ⟨j+1,qv,rfl,hjl,by go_num,rfl,by rw[E.out];rfl,Y.out⟩
    ·have e5:decide (j<z.fields.length)=false:=decide_eq_false hjl
     have E:Hid (S=b):=by
      have:=G.out
      rw[ZF (by omega),Vl.ZA.novs,Bool.and_true] at this
      exact QA this
     have aA:=QA (ac.out.trans (B.out.mono ac.out.size))
     go_wp2_with fail
     go_ret
     exact ⟨by rw[E.out];rfl,aA.out⟩
theorem fixed_all:∀ (N:Nat),N≤1000000000→FixC N
 | 0,_=>fun z hN=>by have:=Vl.Z.n_pos z;omega
 | N+1,h=>fixed_step N (by omega) (fixed_all N (by omega))
def DepC (N:Nat):Prop:=∀ (z:Vl.Z),z.n≤N→∀ (a1 a2:Option Addr) (c1 c2:Nat) (w:World) (P:Nat→Prop),
 Reads w P z.d [.int .i64 z.kind,.string ⟨z.text.toArray⟩,.slice a1 z.items.length c1,.slice a2 z.fields.length c2,.int .i64 z.at_] →
 Calls Tryz.prog 182 #[.agg #[.int .i64 z.kind,.string ⟨z.text.toArray⟩,.slice a1 z.items.length c1,.slice a2 z.fields.length c2,.int .i64 z.at_]] w (fun r w'=>r=.returned (.int .i64 z.dep)∧Below w.heap.size w w')
set_option maxHeartbeats 2000000 in
set_option maxRecDepth 100000 in
theorem deep_step (N:Nat) (hNb:N≤1000000000) (IH:DepC N):DepC (N+1):=by
 intro z hN a1 a2 c1 c2 w P hR
 have aB:=Vl.Z.n_eq z
 have aJ:=Vl.Z.ns_len z.items
 have aD:=Vl.ZA.ns_len z.fields
 have aq:=Vl.dep_le z
 obtain ⟨x1,x2,x3,x4,ex,av,am⟩:=Z_open hR
 obtain ⟨rfl,rfl,rfl,rfl⟩:a1=x1∧c1=x3∧a2=x2∧c2=x4:=by simpa [and_assoc] using ex
 have hz:z.items.length≤1000000001:=by omega
 have hy:z.fields.length≤1000000001:=by omega
 have ar:Hid (∀ x∈z.items,x.n≤N):=QA (fun x hx=>by have:=Vl.Z.ns_mem hx;omega)
 have ao:Hid (∀ x∈z.fields,x.v.n≤N):=QA (fun x hx=>by have:=Vl.ZA.ns_mem hx;have:=Vl.ZA.n_eq x;omega)
 obtain ⟨wc,W⟩:∃ q,q=w.alloc (.cells #[.int .i64 z.kind,.string ⟨z.text.toArray⟩,.slice a1 z.items.length c1,.slice a2 z.fields.length c2,.int .i64 z.at_] 25):=⟨_,rfl⟩
 have V:Below w.heap.size w wc:=by rw[W];exact below_box3 _ _ _
 have ax:wc.heap[w.heap.size]?=some (.cells #[.int .i64 z.kind,.string ⟨z.text.toArray⟩,.slice a1 z.items.length c1,.slice a2 z.fields.length c2,.int .i64 z.at_] 25 (0,0)):=by rw[W];exact heap_at_new _ _
 have aF:=QA W
 have ad:=QA V
 have U:=QA ax
 have aO:=QA (av.to (Stands.below V))
 have aP:=QA (am.to (Stands.below V))
 have an:=QA IH
 obtain ⟨S,hS⟩:∃ S,S=z.dep:=⟨_,rfl⟩
 have HF:Hid (S=max (Vl.Z.deps z.items) (Vl.ZA.deps z.fields)+(if Vl.many z.kind then 1 else 0)):=QA (by rw[hS,Vl.Z.dep_eq])
 have aN:Hid (∀ x∈z.items,x.dep≤1000000000):=QA (fun x hx=>by have:=Vl.dep_le x;have:=ar.out x hx;omega)
 have aQ:Hid (∀ x∈z.fields,x.v.dep≤1000000000):=QA (fun x hx=>by have:=Vl.dep_le x.v;have:=ao.out x hx;omega)
 have aX:=QA (Vl.deps_le z.items)
 have X:Hid (max (Vl.Z.deps z.items) (Vl.ZA.deps z.fields)≤1000000001):=QA (by rw[Vl.Z.dep_eq] at aq;omega)
 rw[← hS]
 clear hR ex av am V W IH ax aB aJ aD hS hN aq
 go_enter Tryz.func182,Tryz.ntmps182
 go_wp2_with fail
 rw[← aF.out]
 go_loopg [3,11] (z.items.length+1) (fun k v i wr=>∃ (j:Nat) (b:Nat),k=z.items.length+1-j∧j≤z.items.length∧i=.int .i64 j∧v=.int .i64 (b:Nat)∧max b (Vl.Z.deps (z.items.drop j))=Vl.Z.deps z.items∧Below wc.heap.size wc wr)
 case atStart=>exact ⟨0,0,rfl,ZV _,rfl,rfl,Nat.zero_max _,Below.refl _ _⟩
 case round =>
  obtain ⟨j,b,hk,hj,rfl,rfl,hs,I⟩:=hrel
  have HK:=QA hk
  have F:=QA hs
  have B:=QA (I)
  have L:=QA I
  have O:Hid (wr.heap[w.heap.size]?=some (.cells #[.int .i64 z.kind,.string ⟨z.text.toArray⟩,.slice a1 z.items.length c1,.slice a2 z.fields.length c2,.int .i64 z.at_] 25 (0,0))):=QA ((B.out.block _ (block_lt U.out)).trans U.out)
  clear hk hs I
  by_cases hjl:j<z.items.length
  ·have e5:decide (j<z.items.length)=true:=decide_eq_true hjl
   obtain ⟨p,K⟩:∃ x,z.items[j]?=some x:=⟨z.items[j],ZJ hjl⟩
   have M:z.items.drop j=p::z.items.drop (j+1):=by rw[ZE hjl];rw[ZJ hjl] at K;rw[Option.some.inj K]
   have R:=ar.out p (ZC K)
   obtain ⟨g,o,cs,ha,-,E,T,A,hd⟩:=aO.out.el j p.d (by rw[ZI,K];rfl)
   have D:Hid (max b (max p.dep (Vl.Z.deps (z.items.drop (j+1))))=Vl.Z.deps z.items):=by have:=F.out;rw[M,Vl.Z.deps] at this;exact QA this
   have Y:p.dep≤1000000000:=aN.out p (ZC K)
   have ah:b≤1000000001:=by have:=D.out;have:=X.out;omega
   obtain ⟨p1,p2,u1,u2,rfl,-,-⟩:=Z_open hd
   have k0:wr.cell? ⟨g,o+j*5,none⟩=_:=(B.out.cell (p:=⟨g,o+j*5,none⟩) E).trans (A 0 _ rfl)
   have k1:wr.cell? ⟨g,o+j*5+1,none⟩=_:=(B.out.cell (p:=⟨g,o+j*5+1,none⟩) E).trans (A 1 _ rfl)
   have k2:wr.cell? ⟨g,o+j*5+2,none⟩=_:=(B.out.cell (p:=⟨g,o+j*5+2,none⟩) E).trans (A 2 _ rfl)
   have k3:wr.cell? ⟨g,o+j*5+3,none⟩=_:=(B.out.cell (p:=⟨g,o+j*5+3,none⟩) E).trans (A 3 _ rfl)
   have k4:wr.cell? ⟨g,o+j*5+4,none⟩=_:=(B.out.cell (p:=⟨g,o+j*5+4,none⟩) E).trans (A 4 _ rfl)
   subst ha
   obtain ⟨wa,J⟩:∃ q,q=wr.alloc (.cells #[.int .i64 p.kind,.string ⟨p.text.toArray⟩,.slice p1 p.items.length u1,.slice p2 p.fields.length u2,.int .i64 p.at_] 25):=⟨_,rfl⟩
   have H:Below wr.heap.size wr wa:=by rw[J];exact below_box3 _ _ _
   have C:=QA (an.out p R p1 p2 u1 u2 wa P (hd.to (Stands.below (B.out.trans (H.mono B.out.size)))))
   have G:=QA (L.out.trans (H.mono L.out.size))
   rw[J] at C G
   clear K M T A hd F R J H
   obtain ⟨qv,Q⟩:∃ r,r=p.dep:=⟨_,rfl⟩
   rw[← Q] at C D Y
   clear Q
   go_wp2_with fail
   refine C.out.mono ?_
   rintro e w6 ⟨rfl,hb6⟩
   have ab:=QA (G.out.trans (hb6.mono G.out.size))
   clear hb6 k0 k1 k2 k3 k4 C
   go_wp2_with fail
   go_roundg (z.items.length+1-(j+1))
   case measure=>rw[HK.out];omega
   case rel=>exact ⟨j+1,max b qv,rfl,hjl,by go_num,by first|rfl|(congr 1;omega),by have:=D.out;omega,ab.out⟩
  ·have e5:decide (j<z.items.length)=false:=decide_eq_false hjl
   have D:Hid (b=Vl.Z.deps z.items):=by
    have:=F.out
    rw[ZF (by omega),Vl.Z.deps,Nat.max_zero] at this
    exact QA this
   have z3:wr.cell? ⟨w.heap.size,3,none⟩=some (.slice a2 z.fields.length c2):=blk_cell O.out 3 _ rfl
   obtain ⟨w5,aj⟩:∃ q,q=wr:=⟨_,rfl⟩
   rw[← aj] at B z3 O ⊢
   have ak:=B
   clear aj B L O HK F
   go_wp2_with fail
   go_loopg [3,23] (z.fields.length+1) (fun k v i wr=>∃ (j:Nat) (b:Nat),k=z.fields.length+1-j∧j≤z.fields.length∧i=.int .i64 j∧v=.int .i64 (b:Nat)∧max b (Vl.ZA.deps (z.fields.drop j))=max (Vl.Z.deps z.items) (Vl.ZA.deps z.fields)∧Below w5.heap.size w5 wr)
   case atStart=>exact ⟨0,b,rfl,ZV _,rfl,rfl,by rw[D.out,List.drop_zero],Below.refl _ _⟩
   case round =>
    obtain ⟨j,b,hk,hj,rfl,rfl,hs,I⟩:=hrel
    have HK:=QA hk
    have F:=QA hs
    have B:=QA (ak.out.trans (I.mono ak.out.size))
    have L:=QA I
    have O:Hid (wr.heap[w.heap.size]?=some (.cells #[.int .i64 z.kind,.string ⟨z.text.toArray⟩,.slice a1 z.items.length c1,.slice a2 z.fields.length c2,.int .i64 z.at_] 25 (0,0))):=QA ((B.out.block _ (block_lt U.out)).trans U.out)
    clear hk hs I
    by_cases hjl:j<z.fields.length
    ·have e5:decide (j<z.fields.length)=true:=decide_eq_true hjl
     obtain ⟨p,K⟩:∃ x,z.fields[j]?=some x:=⟨z.fields[j],ZJ hjl⟩
     have M:z.fields.drop j=p::z.fields.drop (j+1):=by rw[ZE hjl];rw[ZJ hjl] at K;rw[Option.some.inj K]
     have R:=ao.out p (ZC K)
     obtain ⟨g,o,cs,ha,-,E,T,A,hd⟩:=aP.out.el j p.d (by rw[ZI,K];rfl)
     have D:Hid (max b (max p.v.dep (Vl.ZA.deps (z.fields.drop (j+1))))=max (Vl.Z.deps z.items) (Vl.ZA.deps z.fields)):=by have:=F.out;rw[M,Vl.ZA.deps_cons] at this;exact QA this
     have Y:p.v.dep≤1000000000:=aQ.out p (ZC K)
     have ah:b≤1000000001:=by have:=D.out;have:=X.out;omega
     obtain ⟨p1,p2,u1,u2,rfl,ae⟩:=ZA_open hd
     have k0:wr.cell? ⟨g,o+j*7,none⟩=_:=(B.out.cell (p:=⟨g,o+j*7,none⟩) E).trans (A 0 _ rfl)
     have k1:wr.cell? ⟨g,o+j*7+1,none⟩=_:=(B.out.cell (p:=⟨g,o+j*7+1,none⟩) E).trans (A 1 _ rfl)
     have k2:wr.cell? ⟨g,o+j*7+2,none⟩=_:=(B.out.cell (p:=⟨g,o+j*7+2,none⟩) E).trans (A 2 _ rfl)
     have k3:wr.cell? ⟨g,o+j*7+3,none⟩=_:=(B.out.cell (p:=⟨g,o+j*7+3,none⟩) E).trans (A 3 _ rfl)
     have k4:wr.cell? ⟨g,o+j*7+4,none⟩=_:=(B.out.cell (p:=⟨g,o+j*7+4,none⟩) E).trans (A 4 _ rfl)
     have k5:wr.cell? ⟨g,o+j*7+5,none⟩=_:=(B.out.cell (p:=⟨g,o+j*7+5,none⟩) E).trans (A 5 _ rfl)
     have k6:wr.cell? ⟨g,o+j*7+6,none⟩=_:=(B.out.cell (p:=⟨g,o+j*7+6,none⟩) E).trans (A 6 _ rfl)
     subst ha
     obtain ⟨wa,J⟩:∃ q,q=wr.alloc (.cells #[.string ⟨p.name.toArray⟩,.int .i64 p.v.kind,.string ⟨p.v.text.toArray⟩,.slice p1 p.v.items.length u1,.slice p2 p.v.fields.length u2,.int .i64 p.v.at_,.int .i64 p.at_] 72):=⟨_,rfl⟩
     have H:Below wr.heap.size wr wa:=by rw[J];exact below_box3 _ _ _
     have C:=QA (an.out p.v R p1 p2 u1 u2 wa P (ae.to (Stands.below (B.out.trans (H.mono B.out.size)))))
     have G:=QA (L.out.trans (H.mono L.out.size))
     rw[J] at C G
     clear K M T A hd ae F R J H
     obtain ⟨qv,Q⟩:∃ r,r=p.v.dep:=⟨_,rfl⟩
     rw[← Q] at C D Y
     clear Q
     go_wp2_with fail
     refine C.out.mono ?_
     rintro e w6 ⟨rfl,hb6⟩
     have ab:=QA (G.out.trans (hb6.mono G.out.size))
     clear hb6 k0 k1 k2 k3 k4 k5 k6 C
     go_wp2_with fail
     go_roundg (z.fields.length+1-(j+1))
     case measure=>rw[HK.out];omega
     case rel=>exact ⟨j+1,max b qv,rfl,hjl,by go_num,by first|rfl|(congr 1;omega),by have:=D.out;omega,ab.out⟩
    ·have e5:decide (j<z.fields.length)=false:=decide_eq_false hjl
     have D:Hid (b=max (Vl.Z.deps z.items) (Vl.ZA.deps z.fields)):=by
      have:=F.out
      rw[ZF (by omega),Vl.ZA.deps,Nat.max_zero] at this
      exact QA this
     have aa:=QA (ad.out.trans (B.out.mono ad.out.size))
     have z0:wr.cell? ⟨w.heap.size,0,none⟩=some (.int .i64 z.kind):=blk_cell O.out 0 _ rfl
     have ah:b≤1000000001:=by have:=D.out;have:=X.out;omega
     by_cases h8:z.kind=8
     ·have q8:(z.kind==8)=true:=by rw[beq_iff_eq];exact h8
      have HG:Hid (S=b+1):=QA (by rw[HF.out,D.out,if_pos (by unfold Vl.many;exact .inl h8)])
      clear h8
      go_wp2_with fail
      go_ret
      exact ⟨by rw[HG.out];rfl,aa.out⟩
     have q8:(z.kind==8)=false:=by rw[beq_eq_false_iff_ne];exact h8
     by_cases h9:z.kind=9
     ·have q9:(z.kind==9)=true:=by rw[beq_iff_eq];exact h9
      have HG:Hid (S=b+1):=QA (by rw[HF.out,D.out,if_pos (by unfold Vl.many;exact .inr h9)])
      clear h8 h9
      go_wp2_with fail
      go_ret
      exact ⟨by rw[HG.out];rfl,aa.out⟩
     have q9:(z.kind==9)=false:=by rw[beq_eq_false_iff_ne];exact h9
     have HG:Hid (S=b):=QA (by rw[HF.out,D.out,if_neg (by unfold Vl.many;omega),Nat.add_zero])
     clear h8 h9
     go_wp2_with fail
     go_ret
     exact ⟨by rw[HG.out];rfl,aa.out⟩
theorem deep_all:∀ (N:Nat),N≤1000000000→DepC N
 | 0,_=>fun z hN=>by have:=Vl.Z.n_pos z;omega
 | N+1,h=>deep_step N (by omega) (deep_all N (by omega))
theorem idx_from (t:List UInt8):∀ (l:List (List UInt8)) (i:Nat),Lib.idxFromS (l.map fun s=>(⟨s.toArray⟩:ByteArray)) ⟨t.toArray⟩ i=match l.findIdx? (fun w=>decide (w=t)) with
  | some k=>((i+k:Nat):Int)
  | none=>-1
 | [],i=>rfl
 | x::l,i=>by
  rw[List.map_cons,List.findIdx?_cons]
  unfold Lib.idxFromS
  by_cases h:x=t
  ·subst h
   simp
  ·have o:¬ (⟨x.toArray⟩:ByteArray)=⟨t.toArray⟩:=fun e=>h (by
    have:=congrArg (fun y:ByteArray=>y.data.toList) e
    simpa using this)
   rw[idx_from t l (i+1)]
   simp only[h,decide_false,Bool.false_eq_true,if_false,o]
   cases l.findIdx? (fun w=>decide (w=t)) with
   | none=>simp[o]
   | some k=>simp[o,Int.add_assoc,Int.add_comm 1]
def sndC:Code→Code
 | .seq _ c=>c
 | c=>c
theorem below_fr {n b:Nat} {w w2 wr:World} (h:Below n w w2) (hw:n≤w.heap.size) (hf:Fr b w2 wr) (hb:n≤b):Below n w wr :=
 ⟨hf.os.trans h.os,hf.tape.trans h.tape,hf.output.trans h.output,Nat.le_trans h.size hf.size,fun k hk=>by rw[hf.block k (by have:=h.size;omega) (by omega)];exact h.block k hk⟩
section
variable {w : World} {P : Nat → Prop}
end
end Go.Proofs.YtefjgpkpplkkgaaGreatDoor
