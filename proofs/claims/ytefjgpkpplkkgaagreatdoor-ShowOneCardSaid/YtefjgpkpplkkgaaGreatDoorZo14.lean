/-
  Values in memory. Values are compared: 'Same', walked. The reader: Value, Arg at any depth; Args, walked. A row in a variable of a call's own, beside the reader. The reader of a text: New, walked. The reader of types: told, words, names, walked. The reader of types: a block that is filled field by field; input, M3, walked. What stands while a part of a type is read; one element of a row. 'Parse' of a value, of a type, walked. 'ParseType', walked.
-/
import Derived.Test.YtefjgpkpplkkgaaGreatDoorZo13
import Derived.Test.YtefjgpkpplkkgaaGreatDoorZo1
import Derived.Test.YtefjgpkpplkkgaaGreatDoorZo4
import Derived.Test.YtefjgpkpplkkgaaGreatDoorZo2
import Derived.Test.YtefjgpkpplkkgaaGreatDoorZo5
open Go.Lib renaming hid → QA
open List renaming length_append → QU, mem_of_getElem? → ZE, drop_eq_getElem_cons → ZG, drop_eq_nil_of_le → ZH, getElem?_map → ZK, getElem?_eq_getElem → ZL, mem_cons → JC
open Nat renaming le_refl → QM, le_trans → QR, reduceAdd → ZB
namespace Go.Proofs.YtefjgpkpplkkgaaGreatDoor
set_option maxRecDepth 100000
set_option maxHeartbeats 4000000
set_option linter.unusedSimpArgs false
set_option linter.unusedVariables false
open Go Go.RowKit
namespace Vl
mutual
def Z.d:Z→D
 | .mk k t items fields a=>.obj [.int k,.str t,.seq 5 (Z.dl items),.seq 7 (ZA.dl fields),.int a]
def Z.dl:List Z→List D
 | []=>[]
 | x::r=>Z.d x::Z.dl r
def ZA.d:ZA→D
 | .mk n v a=>.obj [.str n,Z.d v,.int a]
def ZA.dl:List ZA→List D
 | []=>[]
 | x::r=>ZA.d x::ZA.dl r
end
theorem Z.dl_map:∀l:List Z,Z.dl l=l.map Z.d
 | []=>by rw[Z.dl];rfl
 | x::r=>by rw[Z.dl,Z.dl_map r];rfl
theorem ZA.dl_map:∀l:List ZA,ZA.dl l=l.map ZA.d
 | []=>by rw[ZA.dl];rfl
 | x::r=>by rw[ZA.dl,ZA.dl_map r];rfl
end Vl
section
variable {w : World} {P : Nat → Prop}
theorem Reads.el {k:Nat} {xs:List D} {a:Option Addr} {n c:Nat} (h:Reads w P (.seq k xs) [.slice a n c]):∀(j:Nat) d,xs[j]?=some d→∃g o cs,a=some ⟨g,o,none⟩∧P g∧g<w.heap.size∧cs.length=k ∧
  (∀(q:Nat) v,cs[q]?=some v→w.cell? ⟨g,o+j*k+q,none⟩=some v)∧Reads w P d cs:=by
 obtain⟨B,A,e,C⟩:=h.seq_inv;obtain⟨rfl,rfl,rfl⟩:a=B∧n=xs.length∧c=A:=by simpa using e
 intro j d hj;have:=C.at j d hj;rw[Nat.zero_add]at this;exact this
theorem BR {v:Vl.Z} {cs:List Value} (h:Reads w P v.d cs):∃(a1 a2:Option Addr) (c1 c2:Nat),cs=[.int .i64 v.kind,.string ⟨v.text.toArray⟩,.slice a1 v.items.length c1,.slice a2 v.fields.length c2,.int .i64 v.at_] ∧
  Reads w P (.seq 5 (v.items.map Vl.Z.d)) [.slice a1 v.items.length c1]∧Reads w P (.seq 7 (v.fields.map Vl.ZA.d)) [.slice a2 v.fields.length c2]:=by
 cases v with
 | mk k t is fs a =>
  unfold Vl.Z.d at h;rw[Vl.Z.dl_map,Vl.ZA.dl_map]at h;obtain⟨M,L,rfl,F,C⟩:=h.obj_inv.cons_inv;obtain⟨N,S,rfl,D,J⟩:=C.cons_inv;obtain⟨U,Q,rfl,A,K⟩:=J.cons_inv;obtain⟨V,O,rfl,o,I⟩:=K.cons_inv;obtain⟨T,R,rfl,G,E⟩:=I.cons_inv;obtain rfl:=F.int_inv;obtain rfl:=D.str_inv;obtain⟨b3,B,rfl,_⟩:=A.seq_inv;obtain⟨b4,H,rfl,_⟩:=o.seq_inv;obtain rfl:=G.int_inv;obtain rfl:=E.nil_inv;simp only[List.length_map]at A o ⊢;exact⟨b3,b4,B,H,rfl,A,o⟩
theorem BZ {x:Vl.ZA} {cs:List Value} (h:Reads w P x.d cs):∃(a1 a2:Option Addr) (c1 c2:Nat),
  cs=[.string ⟨x.name.toArray⟩,.int .i64 x.v.kind,.string ⟨x.v.text.toArray⟩,.slice a1 x.v.items.length c1,.slice a2 x.v.fields.length c2,.int .i64 x.v.at_,.int .i64 x.at_] ∧
  Reads w P x.v.d [.int .i64 x.v.kind,.string ⟨x.v.text.toArray⟩,.slice a1 x.v.items.length c1,.slice a2 x.v.fields.length c2,.int .i64 x.v.at_]:=by
 cases x with
 | mk nm v a =>
  unfold Vl.ZA.d at h;obtain⟨J,G,rfl,D,A⟩:=h.obj_inv.cons_inv;obtain⟨K,H,rfl,o,B⟩:=A.cons_inv;obtain⟨F,I,rfl,C,E⟩:=B.cons_inv;obtain rfl:=D.str_inv;obtain⟨a1,a2,c1,c2,rfl,-,-⟩:=BR o;obtain rfl:=C.int_inv;obtain rfl:=E.nil_inv;exact⟨a1,a2,c1,c2,rfl,o⟩
end
def AN (z:Vl.Z) (a1 a2:Option Addr) (n1 n2:Nat):Array Value:=#[.int .i64 z.kind,.string ⟨z.text.toArray⟩,.slice a1 z.items.length n1,.slice a2 z.fields.length n2,.int .i64 z.at_]
def IV (N:Nat):Prop:=∀(x y:Vl.Z),x.n≤N→∀(a1 a2 b1 b2:Option Addr) (c1 c2 d1 d2:Nat) (w:World) (P:Nat→Prop),
 Reads w P x.d [.int .i64 x.kind,.string ⟨x.text.toArray⟩,.slice a1 x.items.length c1,.slice a2 x.fields.length c2,.int .i64 x.at_] →
 Reads w P y.d [.int .i64 y.kind,.string ⟨y.text.toArray⟩,.slice b1 y.items.length d1,.slice b2 y.fields.length d2,.int .i64 y.at_] →
 Calls Tryz.prog 15 #[.agg #[.int .i64 x.kind,.string ⟨x.text.toArray⟩,.slice a1 x.items.length c1,.slice a2 x.fields.length c2,.int .i64 x.at_],.agg #[.int .i64 y.kind,.string ⟨y.text.toArray⟩,.slice b1 y.items.length d1,.slice b2 y.fields.length d2,.int .i64 y.at_]] w
  (λr w'=>r=.returned (.bool (x.same y))∧Below w.heap.size w w')
theorem Mt (N:Nat) (IH:IV N) (xs ys:List Vl.Z) (hx:∀x∈xs,x.n≤N) (a b:Option Addr) (c d:Nat) (w:World) (P:Nat→Prop) (hlx:xs.length≤9223372036854775807)
  (hrx:Reads w P (.seq 5 (xs.map Vl.Z.d)) [.slice a xs.length c]) (hry:Reads w P (.seq 5 (ys.map Vl.Z.d)) [.slice b ys.length d]) :
  Calls Tryz.prog 43 #[.slice a xs.length c,.slice b ys.length d,.func (.func 15) #[] #[]] w (λr w'=>r=.returned (.bool (Vl.Z.sames xs ys))∧Below w.heap.size w w'):=by
 have HX:=QA hx;have ae:=QA hrx;have af:=QA hry;have ai:=QA IH;clear hx hrx hry IH;by_cases D:xs.length=ys.length;rotate_left
 ·have e0:((xs.length:Int) != (ys.length:Int))=true:=neT (by omega);have HS:Hid (Vl.Z.sames xs ys=false):=QA (Vl.Z.sames_len D);go_enter Tryz.func43,Tryz.ntmps43;go_wp2_with fail;go_ret;exact⟨by rw[HS.out];rfl,Below.refl _ _⟩
 have e0:((xs.length:Int) != (ys.length:Int))=false:=neF (by omega);obtain⟨S,hS⟩:∃S,S=Vl.Z.sames xs ys:=⟨_,rfl⟩
 have HS:=QA hS;rw[← hS];clear hS;have R:=QA D;clear D;go_enter Tryz.func43,Tryz.ntmps43;go_wp2_with fail
 go_loopg [17] (xs.length+1) (λk i wr=>∃(j:Nat),k=xs.length+1-j∧j≤xs.length∧i=.int .i64 j∧S=Vl.Z.sames (xs.drop j) (ys.drop j)∧Below w.heap.size w wr)
 case atStart=>exact⟨0,rfl,Nat.zero_le _,rfl,HS.out,Below.refl _ _⟩
 case round =>
  obtain⟨j,hk,hj,rfl,hs,aa⟩:=hrel;have HK:=QA hk;have V:=QA hs;have C:=QA aa;clear hk hs aa;by_cases hjl:j<xs.length
  ·have e1:decide (j<xs.length)=true:=decide_eq_true hjl;have K:j<ys.length:=by have:=R.out;omega
   have e2:decide (j<ys.length)=true:=decide_eq_true K;obtain⟨x,hx⟩:∃z,xs[j]?=some z:=⟨xs[j],ZL hjl⟩
   obtain⟨y,hy⟩:∃z,ys[j]?=some z:=⟨ys[j],ZL K⟩
   have X:xs.drop j=x::xs.drop (j+1):=by rw[ZG hjl];rw[ZL hjl]at hx;rw[Option.some.inj hx]
   have Y:ys.drop j=y::ys.drop (j+1):=by rw[ZG K];rw[ZL K]at hy;rw[Option.some.inj hy]
   have Q:Hid (S=(x.same y&&Vl.Z.sames (xs.drop (j+1)) (ys.drop (j+1)))):=by have:=V.out;rw[X,Y,Vl.Z.sames_cons]at this;exact QA this
   have ah:=QA (HX.out x (ZE hx));obtain⟨g,o,cs,ha,-,H,D,B,hd⟩:=ae.out.el j x.d (by rw[ZK,hx];rfl);obtain⟨I,J,aJ,hb,-,E,T,A,U⟩:=af.out.el j y.d (by rw[ZK,hy];rfl);obtain⟨a1,a2,u1,u2,rfl,-,-⟩:=BR hd;obtain⟨b1,b2,v1,v2,rfl,-,-⟩:=BR U;have k0:wr.cell? ⟨g,o+j*5,none⟩=_:=(C.out.cell (p:=⟨g,o+j*5,none⟩) H).trans (B 0 _ rfl);have k1:wr.cell? ⟨g,o+j*5+1,none⟩=_:=(C.out.cell (p:=⟨g,o+j*5+1,none⟩) H).trans (B 1 _ rfl);have k2:wr.cell? ⟨g,o+j*5+2,none⟩=_:=(C.out.cell (p:=⟨g,o+j*5+2,none⟩) H).trans (B 2 _ rfl);have k3:wr.cell? ⟨g,o+j*5+3,none⟩=_:=(C.out.cell (p:=⟨g,o+j*5+3,none⟩) H).trans (B 3 _ rfl);have k4:wr.cell? ⟨g,o+j*5+4,none⟩=_:=(C.out.cell (p:=⟨g,o+j*5+4,none⟩) H).trans (B 4 _ rfl);obtain⟨W,L⟩:∃z,z=wr.alloc (.cells #[.int .i64 x.kind,.string ⟨x.text.toArray⟩,.slice a1 x.items.length u1,.slice a2 x.fields.length u2,.int .i64 x.at_] 25):=⟨_,rfl⟩
   have F:Below w.heap.size w W:=by rw[L];exact C.out.alloc C.out.size _
   have m0:W.cell? ⟨I,J+j*5,none⟩=_:=(F.cell (p:=⟨I,J+j*5,none⟩) E).trans (A 0 _ rfl);have m1:W.cell? ⟨I,J+j*5+1,none⟩=_:=(F.cell (p:=⟨I,J+j*5+1,none⟩) E).trans (A 1 _ rfl);have m2:W.cell? ⟨I,J+j*5+2,none⟩=_:=(F.cell (p:=⟨I,J+j*5+2,none⟩) E).trans (A 2 _ rfl);have m3:W.cell? ⟨I,J+j*5+3,none⟩=_:=(F.cell (p:=⟨I,J+j*5+3,none⟩) E).trans (A 3 _ rfl);have m4:W.cell? ⟨I,J+j*5+4,none⟩=_:=(F.cell (p:=⟨I,J+j*5+4,none⟩) E).trans (A 4 _ rfl);rw[L]at m0 m1 m2 m3 m4;subst ha;subst hb;obtain⟨wc,M⟩:∃z,z=(wr.alloc (.cells #[.int .i64 x.kind,.string ⟨x.text.toArray⟩,.slice a1 x.items.length u1,.slice a2 x.fields.length u2,.int .i64 x.at_] 25)).alloc (.cells #[.int .i64 y.kind,.string ⟨y.text.toArray⟩,.slice b1 y.items.length v1,.slice b2 y.fields.length v2,.int .i64 y.at_] 25):=⟨_,rfl⟩
   have O:Below w.heap.size w wc:=by rw[M,← L];exact F.alloc F.size _
   have ac:=QA O;have G:=QA (ai.out x y ah.out a1 a2 b1 b2 u1 u2 v1 v2 wc P (hd.to (AE.below O)) (U.to (AE.below O)));rw[M]at G;have ao:=QA M;clear hx hy X Y D T B A hd U F O L M V;go_wp2_with fail;refine G.out.mono ?_;rintro r w2 ⟨rfl,hb2⟩;rw[← ao.out]at hb2;have ab:=QA (ac.out.trans (hb2.mono ac.out.size));clear hb2 k0 k1 k2 k3 k4 m0 m1 m2 m3 m4 G;obtain⟨q,hq⟩:∃q,q=x.same y:=⟨_,rfl⟩
   rw[← hq];have HQ:=QA hq;clear hq;cases q
   ·go_wp2_with fail;go_ret;exact⟨by rw[Q.out,← HQ.out];rfl,ab.out⟩
   ·go_wp2_with fail;go_roundg (xs.length+1-(j+1))
    case measure=>rw[HK.out];omega
    case rel=>exact⟨j+1,rfl,hjl,by go_num,by rw[Q.out,← HQ.out];rfl,ab.out⟩
  ·have e1:decide (j<xs.length)=false:=decide_eq_false hjl;have Q:Hid (S=true):=by
    have:=V.out;rw[ZH (by omega),ZH (by have:=R.out;omega),Vl.Z.sames_nil]at this;exact QA this
   go_wp2_with fail;go_ret;exact⟨by rw[Q.out];rfl,C.out⟩
def MG (N:Nat):Prop:=∀(x y:Vl.ZA),x.n≤N→∀(a1 a2 b1 b2:Option Addr) (c1 c2 d1 d2:Nat) (w:World) (P:Nat→Prop),
 Reads w P x.d [.string ⟨x.name.toArray⟩,.int .i64 x.v.kind,.string ⟨x.v.text.toArray⟩,.slice a1 x.v.items.length c1,.slice a2 x.v.fields.length c2,.int .i64 x.v.at_,.int .i64 x.at_] →
 Reads w P y.d [.string ⟨y.name.toArray⟩,.int .i64 y.v.kind,.string ⟨y.v.text.toArray⟩,.slice b1 y.v.items.length d1,.slice b2 y.v.fields.length d2,.int .i64 y.v.at_,.int .i64 y.at_] →
 Calls Tryz.prog 45 #[.agg #[.string ⟨x.name.toArray⟩,.int .i64 x.v.kind,.string ⟨x.v.text.toArray⟩,.slice a1 x.v.items.length c1,.slice a2 x.v.fields.length c2,.int .i64 x.v.at_,.int .i64 x.at_],.agg #[.string ⟨y.name.toArray⟩,.int .i64 y.v.kind,.string ⟨y.v.text.toArray⟩,.slice b1 y.v.items.length d1,.slice b2 y.v.fields.length d2,.int .i64 y.v.at_,.int .i64 y.at_]] w
  (λr w'=>r=.returned (.bool (x.same y))∧Below w.heap.size w w')
theorem N4 {w:World} {P:Nat→Prop} {x:Vl.ZA} {n:List UInt8} {k:Int} {t:ByteArray} {s1 s2:Value} {a b:Int} (h:Reads w P x.d [.string ⟨x.name.toArray⟩,.int .i64 x.v.kind,.string ⟨x.v.text.toArray⟩,s1,s2,.int .i64 x.v.at_,.int .i64 x.at_]) :
  Reads w P x.v.d [.int .i64 x.v.kind,.string ⟨x.v.text.toArray⟩,s1,s2,.int .i64 x.v.at_]:=by
 obtain⟨A,B,c1,c2,e,o⟩:=BZ h;simp only[List.cons.injEq,true_and,and_true]at e;obtain⟨rfl,rfl⟩:=e;exact o
theorem Kv (N:Nat) (IH:IV N):MG N:=by
 intro x y hN a1 a2 b1 b2 c1 c2 d1 d2 w P hx hy;have F:=N4 (n:=[]) (k:=0) (t:=⟨#[]⟩) (a:=0) (b:=0) hx;have G:=N4 (n:=[]) (k:=0) (t:=⟨#[]⟩) (a:=0) (b:=0) hy;obtain⟨K,A⟩:∃z,z=(w.alloc (.cells #[.string ⟨x.name.toArray⟩,.int .i64 x.v.kind,.string ⟨x.v.text.toArray⟩,.slice a1 x.v.items.length c1,.slice a2 x.v.fields.length c2,.int .i64 x.v.at_,.int .i64 x.at_] 72)).alloc (.cells #[.string ⟨y.name.toArray⟩,.int .i64 y.v.kind,.string ⟨y.v.text.toArray⟩,.slice b1 y.v.items.length d1,.slice b2 y.v.fields.length d2,.int .i64 y.v.at_,.int .i64 y.at_] 72):=⟨_,rfl⟩
 have B:Below w.heap.size w K:=by rw[A];exact ((Below.refl _ _).alloc (QM _) _).alloc (by simp) _
 have C:=QA B;have o:=QA (IH x.v y.v (by have:=Vl.ZA.n_eq x;omega) a1 a2 b1 b2 c1 c2 d1 d2 K P (F.to (AE.below B)) (G.to (AE.below B)));rw[A]at o;have E:=QA A;have D:=QA (Vl.ZA.same_eq x y);clear F G hx hy B A IH;obtain⟨S,J⟩:∃S,S=x.same y:=⟨_,rfl⟩
 rw[← J]at D ⊢;clear J;by_cases hn:x.name=y.name
 ·have L:(x.name==y.name)=true:=by rw[beq_iff_eq];exact hn
  have I:Hid (S=x.v.same y.v):=by rw[D.out,decide_eq_true hn];exact QA rfl
  clear hn;go_enter Tryz.func45,Tryz.ntmps45;go_wp2_with fail;refine o.out.mono ?_;rintro r w2 ⟨rfl,hb2⟩;rw[← E.out]at hb2;have H:=QA (C.out.trans (hb2.mono C.out.size));clear hb2;go_wp2_with fail;go_ret;exact⟨by rw[I.out];rfl,H.out⟩
 ·have L:(x.name==y.name)=false:=by rw[beq_eq_false_iff_ne];exact hn
  have I:Hid (S=false):=by rw[D.out,decide_eq_false hn];exact QA rfl
  clear hn;go_enter Tryz.func45,Tryz.ntmps45;go_wp2_with fail;go_ret;exact⟨by rw[I.out];rfl,by rw[← E.out];exact C.out⟩
theorem M2 (N:Nat) (IH:MG N) (xs ys:List Vl.ZA) (hx:∀x∈xs,x.n≤N) (a b:Option Addr) (c d:Nat) (w:World) (P:Nat→Prop) (hlx:xs.length≤9223372036854775807)
  (hrx:Reads w P (.seq 7 (xs.map Vl.ZA.d)) [.slice a xs.length c]) (hry:Reads w P (.seq 7 (ys.map Vl.ZA.d)) [.slice b ys.length d]) :
  Calls Tryz.prog 44 #[.slice a xs.length c,.slice b ys.length d,.func (.func 45) #[] #[]] w (λr w'=>r=.returned (.bool (Vl.ZA.sames xs ys))∧Below w.heap.size w w'):=by
 have HX:=QA hx;have ad:=QA hrx;have ag:=QA hry;have af:=QA IH;clear hx hrx hry IH;by_cases F:xs.length=ys.length;rotate_left
 ·have e0:((xs.length:Int) != (ys.length:Int))=true:=neT (by omega);have HS:Hid (Vl.ZA.sames xs ys=false):=QA (Vl.ZA.sames_len F);go_enter Tryz.func44,Tryz.ntmps44;go_wp2_with fail;go_ret;exact⟨by rw[HS.out];rfl,Below.refl _ _⟩
 have e0:((xs.length:Int) != (ys.length:Int))=false:=neF (by omega);obtain⟨S,hS⟩:∃S,S=Vl.ZA.sames xs ys:=⟨_,rfl⟩
 have HS:=QA hS;rw[← hS];clear hS;have R:=QA F;clear F;go_enter Tryz.func44,Tryz.ntmps44;go_wp2_with fail
 go_loopg [17] (xs.length+1) (λk i wr=>∃(j:Nat),k=xs.length+1-j∧j≤xs.length∧i=.int .i64 j∧S=Vl.ZA.sames (xs.drop j) (ys.drop j)∧Below w.heap.size w wr)
 case atStart=>exact⟨0,rfl,Nat.zero_le _,rfl,HS.out,Below.refl _ _⟩
 case round =>
  obtain⟨j,hk,hj,rfl,hs,ab⟩:=hrel;have HK:=QA hk;have W:=QA hs;have E:=QA ab;clear hk hs ab;by_cases hjl:j<xs.length
  ·have e1:decide (j<xs.length)=true:=decide_eq_true hjl;have K:j<ys.length:=by have:=R.out;omega
   have e2:decide (j<ys.length)=true:=decide_eq_true K;obtain⟨x,hx⟩:∃z,xs[j]?=some z:=⟨xs[j],ZL hjl⟩
   obtain⟨y,hy⟩:∃z,ys[j]?=some z:=⟨ys[j],ZL K⟩
   have X:xs.drop j=x::xs.drop (j+1):=by rw[ZG hjl];rw[ZL hjl]at hx;rw[Option.some.inj hx]
   have Y:ys.drop j=y::ys.drop (j+1):=by rw[ZG K];rw[ZL K]at hy;rw[Option.some.inj hy]
   have Q:Hid (S=(x.same y&&Vl.ZA.sames (xs.drop (j+1)) (ys.drop (j+1)))):=by have:=W.out;rw[X,Y,Vl.ZA.sames_cons]at this;exact QA this
   have ao:=QA (HX.out x (ZE hx));obtain⟨g,o,cs,ha,-,G,F,B,hd⟩:=ad.out.el j x.d (by rw[ZK,hx];rfl);obtain⟨J,I,aO,hb,-,C,V,A,U⟩:=ag.out.el j y.d (by rw[ZK,hy];rfl);obtain⟨a1,a2,u1,u2,rfl,-⟩:=BZ hd;obtain⟨b1,b2,v1,v2,rfl,-⟩:=BZ U;have k0:wr.cell? ⟨g,o+j*7,none⟩=_:=(E.out.cell (p:=⟨g,o+j*7,none⟩) G).trans (B 0 _ rfl);have k1:wr.cell? ⟨g,o+j*7+1,none⟩=_:=(E.out.cell (p:=⟨g,o+j*7+1,none⟩) G).trans (B 1 _ rfl);have k2:wr.cell? ⟨g,o+j*7+2,none⟩=_:=(E.out.cell (p:=⟨g,o+j*7+2,none⟩) G).trans (B 2 _ rfl);have k3:wr.cell? ⟨g,o+j*7+3,none⟩=_:=(E.out.cell (p:=⟨g,o+j*7+3,none⟩) G).trans (B 3 _ rfl);have k4:wr.cell? ⟨g,o+j*7+4,none⟩=_:=(E.out.cell (p:=⟨g,o+j*7+4,none⟩) G).trans (B 4 _ rfl);have k5:wr.cell? ⟨g,o+j*7+5,none⟩=_:=(E.out.cell (p:=⟨g,o+j*7+5,none⟩) G).trans (B 5 _ rfl);have k6:wr.cell? ⟨g,o+j*7+6,none⟩=_:=(E.out.cell (p:=⟨g,o+j*7+6,none⟩) G).trans (B 6 _ rfl);obtain⟨T,L⟩:∃z,z=wr.alloc (.cells #[.string ⟨x.name.toArray⟩,.int .i64 x.v.kind,.string ⟨x.v.text.toArray⟩,.slice a1 x.v.items.length u1,.slice a2 x.v.fields.length u2,.int .i64 x.v.at_,.int .i64 x.at_] 72):=⟨_,rfl⟩
   have D:Below w.heap.size w T:=by rw[L];exact E.out.alloc E.out.size _
   have m0:T.cell? ⟨J,I+j*7,none⟩=_:=(D.cell (p:=⟨J,I+j*7,none⟩) C).trans (A 0 _ rfl);have m1:T.cell? ⟨J,I+j*7+1,none⟩=_:=(D.cell (p:=⟨J,I+j*7+1,none⟩) C).trans (A 1 _ rfl);have m2:T.cell? ⟨J,I+j*7+2,none⟩=_:=(D.cell (p:=⟨J,I+j*7+2,none⟩) C).trans (A 2 _ rfl);have m3:T.cell? ⟨J,I+j*7+3,none⟩=_:=(D.cell (p:=⟨J,I+j*7+3,none⟩) C).trans (A 3 _ rfl);have m4:T.cell? ⟨J,I+j*7+4,none⟩=_:=(D.cell (p:=⟨J,I+j*7+4,none⟩) C).trans (A 4 _ rfl);have m5:T.cell? ⟨J,I+j*7+5,none⟩=_:=(D.cell (p:=⟨J,I+j*7+5,none⟩) C).trans (A 5 _ rfl);have m6:T.cell? ⟨J,I+j*7+6,none⟩=_:=(D.cell (p:=⟨J,I+j*7+6,none⟩) C).trans (A 6 _ rfl);rw[L]at m0 m1 m2 m3 m4 m5 m6;subst ha;subst hb;obtain⟨wc,O⟩:∃z,z=(wr.alloc (.cells #[.string ⟨x.name.toArray⟩,.int .i64 x.v.kind,.string ⟨x.v.text.toArray⟩,.slice a1 x.v.items.length u1,.slice a2 x.v.fields.length u2,.int .i64 x.v.at_,.int .i64 x.at_] 72)).alloc (.cells #[.string ⟨y.name.toArray⟩,.int .i64 y.v.kind,.string ⟨y.v.text.toArray⟩,.slice b1 y.v.items.length v1,.slice b2 y.v.fields.length v2,.int .i64 y.v.at_,.int .i64 y.at_] 72):=⟨_,rfl⟩
   have M:Below w.heap.size w wc:=by rw[O,← L];exact D.alloc D.size _
   have aa:=QA M;have H:=QA (af.out x y ao.out a1 a2 b1 b2 u1 u2 v1 v2 wc P (hd.to (AE.below M)) (U.to (AE.below M)));rw[O]at H;have ap:=QA O;clear hx hy X Y F V B A hd U D M L O W;go_wp2_with fail;refine H.out.mono ?_;rintro r w2 ⟨rfl,hb2⟩;rw[← ap.out]at hb2;have Z:=QA (aa.out.trans (hb2.mono aa.out.size));clear hb2 k0 k1 k2 k3 k4 k5 k6 m0 m1 m2 m3 m4 m5 m6 H;obtain⟨q,hq⟩:∃q,q=x.same y:=⟨_,rfl⟩
   rw[← hq];have HQ:=QA hq;clear hq;cases q
   ·go_wp2_with fail;go_ret;exact⟨by rw[Q.out,← HQ.out];rfl,Z.out⟩
   ·go_wp2_with fail;go_roundg (xs.length+1-(j+1))
    case measure=>rw[HK.out];omega
    case rel=>exact⟨j+1,rfl,hjl,by go_num,by rw[Q.out,← HQ.out];rfl,Z.out⟩
  ·have e1:decide (j<xs.length)=false:=decide_eq_false hjl;have Q:Hid (S=true):=by
    have:=W.out;rw[ZH (by omega),ZH (by have:=R.out;omega),Vl.ZA.sames_nil]at this;exact QA this
   go_wp2_with fail;go_ret;exact⟨by rw[Q.out];rfl,E.out⟩
theorem LY (N:Nat) (hNb:N≤9000000000000000000) (IH:IV N):IV (N+1):=by
 have J:=Kv N IH;intro x y hN a1 a2 b1 b2 c1 c2 d1 d2 w P hx hy;obtain⟨x1,x2,x3,x4,ex,U,M⟩:=BR hx;obtain⟨y1,y2,y3,y4,ey,H,T⟩:=BR hy;obtain⟨rfl,rfl,rfl,rfl⟩:a1=x1∧c1=x3∧a2=x2∧c2=x4:=by simpa [and_assoc] using ex
 obtain⟨rfl,rfl,rfl,rfl⟩:b1=y1∧d1=y3∧b2=y2∧d2=y4:=by simpa [and_assoc] using ey
 have hn:=Vl.Z.n_eq x;have am:=Vl.Z.ns_len x.items;have aq:=Vl.ZA.ns_len x.fields;obtain⟨W,o⟩:∃z,z=(w.alloc (.cells #[.int .i64 x.kind,.string ⟨x.text.toArray⟩,.slice a1 x.items.length c1,.slice a2 x.fields.length c2,.int .i64 x.at_] 25)).alloc (.cells #[.int .i64 y.kind,.string ⟨y.text.toArray⟩,.slice b1 y.items.length d1,.slice b2 y.fields.length d2,.int .i64 y.at_] 25):=⟨_,rfl⟩
 have A:Below w.heap.size w W:=by rw[o];exact ((Below.refl _ _).alloc (QM _) _).alloc (by simp) _
 have C:=QA A;have F:=QA o;have ac:=QA (M.to (AE.below A));have ag:=QA (T.to (AE.below A));have D:=QA (Vl.Z.same_eq x y);have ab:Hid (∀z∈x.fields,z.n≤N):=QA (λz hz=>by have:=Vl.ZA.ns_mem hz;omega);have R:=QA J;have au:x.fields.length≤9223372036854775807:=by omega
 have O:(W.heap[w.heap.size]?=some (.cells #[.int .i64 x.kind,.string ⟨x.text.toArray⟩,.slice a1 x.items.length c1,.slice a2 x.fields.length c2,.int .i64 x.at_] 25 (0,0))):=by
  rw[o,Lib.alloc_old _ _ _ (by simp)];exact AC _ _
 have V:(W.heap[w.heap.size+1]?=some (.cells #[.int .i64 y.kind,.string ⟨y.text.toArray⟩,.slice b1 y.items.length d1,.slice b2 y.fields.length d2,.int .i64 y.at_] 25 (0,0))):=by
  rw[o];have:=AC (w.alloc (.cells #[.int .i64 x.kind,.string ⟨x.text.toArray⟩,.slice a1 x.items.length c1,.slice a2 x.fields.length c2,.int .i64 x.at_] 25)) (.cells #[.int .i64 y.kind,.string ⟨y.text.toArray⟩,.slice b1 y.items.length d1,.slice b2 y.fields.length d2,.int .i64 y.at_] 25);rw[show (w.alloc (.cells #[.int .i64 x.kind,.string ⟨x.text.toArray⟩,.slice a1 x.items.length c1,.slice a2 x.fields.length c2,.int .i64 x.at_] 25)).heap.size=w.heap.size+1 by simp]at this;exact this
 have K:=QA O;have L:=QA V;have I:=QA (Mt N IH x.items y.items (λz hz=>by have:=Vl.Z.ns_mem hz;omega) a1 b1 c1 d1 W P (by omega) (U.to (AE.below A)) (H.to (AE.below A)));rw[o]at I;clear U H M T hx hy ex ey A o IH J O V hn;obtain⟨S,hS⟩:∃S,S=x.same y:=⟨_,rfl⟩
 rw[← hS]at D ⊢;clear hS;by_cases hk:x.kind=y.kind;rotate_left
 ·have e1:(x.kind==y.kind)=false:=by rw[beq_eq_false_iff_ne];exact hk
  have HS:Hid (S=false):=by rw[D.out,decide_eq_false hk];exact QA rfl
  clear hk;go_enter Tryz.func15,Tryz.ntmps15;go_wp2_with fail;go_ret;exact⟨by rw[HS.out];rfl,by rw[← F.out];exact C.out⟩
 have e1:(x.kind==y.kind)=true:=by rw[beq_iff_eq];exact hk
 have G:Hid (S=(decide (x.text=y.text)&&(Vl.Z.sames x.items y.items&&Vl.ZA.sames x.fields y.fields))):=by rw[D.out,decide_eq_true hk];exact QA rfl
 clear hk D;by_cases ht:x.text=y.text;rotate_left
 ·have e3:(x.text==y.text)=false:=by rw[beq_eq_false_iff_ne];exact ht
  have HS:Hid (S=false):=by rw[G.out,decide_eq_false ht];exact QA rfl
  clear ht;go_enter Tryz.func15,Tryz.ntmps15;go_wp2_with fail;go_ret;exact⟨by rw[HS.out];rfl,by rw[← F.out];exact C.out⟩
 have e3:(x.text==y.text)=true:=by rw[beq_iff_eq];exact ht
 have Q:Hid (S=(Vl.Z.sames x.items y.items&&Vl.ZA.sames x.fields y.fields)):=by rw[G.out,decide_eq_true ht];exact QA rfl
 clear ht G;go_enter Tryz.func15,Tryz.ntmps15;go_wp2_with fail;refine I.out.mono ?_;rintro r w2 ⟨rfl,hb2⟩;rw[← F.out]at hb2;obtain⟨q,hq⟩:∃q,q=Vl.Z.sames x.items y.items:=⟨_,rfl⟩
 rw[← hq];have HQ:=QA hq;clear hq;have B:=QA hb2;have E:=QA (C.out.trans (hb2.mono C.out.size));clear hb2;have X:Hid (w2.heap[w.heap.size]?=some (.cells #[.int .i64 x.kind,.string ⟨x.text.toArray⟩,.slice a1 x.items.length c1,.slice a2 x.fields.length c2,.int .i64 x.at_] 25 (0,0))):=QA (by rw[B.out.block _ (block_lt K.out)];exact K.out);have ae:Hid (w2.heap[w.heap.size+1]?=some (.cells #[.int .i64 y.kind,.string ⟨y.text.toArray⟩,.slice b1 y.items.length d1,.slice b2 y.fields.length d2,.int .i64 y.at_] 25 (0,0))):=QA (by rw[B.out.block _ (block_lt L.out)];exact L.out);cases q
 ·go_wp2_with fail;go_ret;exact⟨by rw[Q.out,← HQ.out];rfl,E.out⟩
 ·have z3:w2.cell? ⟨w.heap.size,3,none⟩=some (.slice a2 x.fields.length c2):=AA X.out 3 _ rfl;have z4:w2.cell? ⟨w.heap.size+1,3,none⟩=some (.slice b2 y.fields.length d2):=AA ae.out 3 _ rfl;have Y:=QA (M2 N R.out x.fields y.fields ab.out a2 b2 c2 d2 w2 P (by omega) (ac.out.to (AE.below B.out)) (ag.out.to (AE.below B.out)));go_wp2_with fail;refine Y.out.mono ?_;rintro r w4 ⟨rfl,hb4⟩;have ad:=QA (E.out.trans (hb4.mono E.out.size));clear hb4 z3 z4;go_wp2_with fail;go_ret;exact⟨by rw[Q.out,← HQ.out];rfl,ad.out⟩
theorem Dl:∀(N:Nat),N≤9000000000000000000→IV N
 | 0,_=>λx y hN=>by have:=Vl.Z.n_pos x;omega
 | N+1,h=>LY N (by omega) (Dl N (by omega))
theorem DU (b g:Nat) (fixed:Bool):∀(n:Nat),n≤1600→∀(s:Rd.St) (w:World),AL w b g s→s.rest.length≤n→0≤s.deep∧s.deep+n≤900000 →
  Calls Tryz.prog 39 #[.pointer (some ⟨b,0,none⟩),.bool fixed] w (Got b g w (Rd.value fixed (n+1) s).2.d (Rd.value fixed (n+1) s).1)
 | 0,hnb,s,w,h,hn,hd=>EJ b g fixed 0 s w h hn hnb hd (λm hm=>absurd hm (by omega))
 | n+1,hnb,s,w,h,hn,hd=>EJ b g fixed (n+1) s w h hn hnb hd (λm hm s' w' h' hn' hd'=>by
  obtain rfl:n=m:=by omega
  exact DU b g fixed n (by omega) s' w' h' hn' hd')
theorem Je (b g:Nat) (fixed:Bool) (n:Nat) (hnb:n≤1600) (s:Rd.St) (w:World) (h:AL w b g s) (hn:s.rest.length≤n) (hd:0≤s.deep∧s.deep+n≤900000) :
  Calls Tryz.prog 105 #[.pointer (some ⟨b,0,none⟩),.bool fixed] w (Got b g w (Rd.arg fixed (n+1) s).2.d (Rd.arg fixed (n+1) s).1) :=
 G6 b g fixed (n+1) s w h (λw' hr'=>DU b g fixed n hnb _ w' hr' (QR ((Rd.ok_name s).trans (Rd.ok_want Rd.colon _)).len hn) (by rw[Rd.want_deep,Rd.name_deep];exact hd))
def MK (b g:Nat) (w:World) (k:Nat) (ds:List D) (s:Rd.St) (r:Ending) (w':World):Prop :=
 ∃(a:Option Addr) (c:Nat),r=.returned (.slice a ds.length c)∧Reads w' (λx=>w.heap.size≤x) (.seq k ds) [.slice a ds.length c]∧AL w' b g s∧Fr b w w'
def abx (w0:World) (b:Nat) (fixed:Bool):List Box :=
 [(w0.heap.size,.cells #[.pointer (some ⟨b,0,none⟩)] 160 (0,0)),(w0.heap.size+1,.cells #[.bool fixed] 4 (0,0))]
def ALI (w0:World) (b g:Nat) (fixed:Bool) (m:Nat) (d1:Int) (s:Rd.St) (out:List Rd.A) (w:World):Prop :=
 LI w0 b g (w0.heap.size+1+1) (abx w0 b fixed) 23 BH 72 7 s (out.map Rd.A.d) w∧s.deep=d1∧s.rest.length≤m∧(s.err=0→out.length+s.rest.length≤1602)∧out.length≤1603
theorem LG (cap:Array Value) (w:World):Sem.run Tryz.prog (callFunc 229 cap) w=.ok (.enter 229 cap) w:=by kernel_rfl
theorem C4 (b g:Nat) (fixed:Bool) (n:Nat) (hnb:n≤1600) (s:Rd.St) (w:World) (h:AL w b g s) (hn:s.rest.length≤n) (hd:0≤s.deep∧s.deep+n≤900000) :
  Calls Tryz.prog 212 #[.pointer (some ⟨b,0,none⟩),.bool fixed] w (MK b g w 7 ((Rd.args fixed (n+1) s).2.map Rd.A.d) (Rd.args fixed (n+1) s).1):=by
 have P:=h.lt;have H:=QA h;have HN:=QA hn;obtain⟨d0,d1⟩:=hd;clear h hn;have E:LI w b g (w.heap.size+1+1) (abx w b fixed) 23 BH 72 7 s [] (((w.alloc (.cells #[.pointer (some ⟨b,0,none⟩)] 160)).alloc (.cells #[.bool fixed] 4)).alloc (.cells #[.slice none 0 0] 23)):=by
  have S:Below w.heap.size w (((w.alloc (.cells #[.pointer (some ⟨b,0,none⟩)] 160)).alloc (.cells #[.bool fixed] 4)).alloc (.cells #[.slice none 0 0] 23)) :=
   (((Below.refl _ _).alloc (QM _) _).alloc (by simp) _).alloc (by simp;omega) _
  refine⟨H.out.below S,λp hp=>?_,⟨.slice none 0 0,?_,Az.nil _ _ _ _ _⟩,But.of_below S,P.1,P.2,λp hp=>?_,by omega⟩
  ·unfold abx at hp;simp only[JC,List.not_mem_nil,or_false]at hp;rcases hp with rfl|rfl
   ·show (((w.alloc _).alloc _).alloc _).heap[w.heap.size]?=_;rw[Lib.alloc_old _ _ _ (by simp;omega),Lib.alloc_old _ _ _ (by simp)];exact AC _ _
   ·show (((w.alloc _).alloc _).alloc _).heap[w.heap.size+1]?=_;rw[Lib.alloc_old _ _ _ (by simp)];have:=AC (w.alloc (.cells #[.pointer (some ⟨b,0,none⟩)] 160)) (.cells #[.bool fixed] 4)
    simpa using this
  ·have:=AC ((w.alloc (.cells #[.pointer (some ⟨b,0,none⟩)] 160)).alloc (.cells #[.bool fixed] 4)) (.cells #[.slice none 0 0] 23);rw[show ((w.alloc (.cells #[.pointer (some ⟨b,0,none⟩)] 160)).alloc (.cells #[.bool fixed] 4)).heap.size=w.heap.size+1+1 by simp]at this;exact this
  ·unfold abx at hp;simp only[JC,List.not_mem_nil,or_false]at hp;rcases hp with rfl|rfl<;>(simp only;omega)
 have V:=QA E;have I:=E.cellx (t:=w.heap.size) (v:=.pointer (some ⟨b,0,none⟩)) (T:=160) (by simp[abx]);clear E;go_enter Tryz.func212,Tryz.ntmps212;go_wp2_with fail;refine (BO b g s Rd.lpar _ V.out.rd).mono ?_;rintro r w1 ⟨rfl,h1,f1⟩;have o:=QA (V.out.step h1 f1);clear h1 f1 I;obtain⟨B,hB⟩:∃B,B=Rd.isS s Rd.lpar:=⟨_,rfl⟩
 have Y:=QA hB;rw[← hB];clear hB;cases B
 ·have Z:Hid (Rd.args fixed (n+1) s=(s,[])):=by
   unfold Rd.args;rw[if_neg (by rw[← Y.out];simp)];exact QA rfl
  have HT:Hid (Rd.take Rd.lpar s=s):=by
   unfold Rd.take;rw[if_neg (by rw[← Y.out];simp)];exact QA rfl
  obtain⟨v,W,G⟩:=o.out.ex;obtain⟨O,Q,rfl⟩:=G.form;have k3:=AA W 0 (.slice O 0 Q) rfl;have X:=QA G;clear W G;go_wp2_with fail;go_ret;rw[Z.out];refine⟨O,Q,rfl,?_,by have:=o.out.rd;rw[HT.out]at this;exact this,o.out.fr⟩;exact X.out.reads.to (AE.sub w1 (λx _ hp=>by
   rcases hp with hp|hp
   ·have:=hp.1;show w.heap.size≤x;omega
   ·have:=QR (Bc _ _) (X.out.lt x hp).1;show w.heap.size≤x;omega))
 ·have HT:Hid (Rd.take Rd.lpar s=Rd.next s):=by
   unfold Rd.take;rw[if_pos Y.out.symm];exact QA rfl
  have Z:Hid (Rd.args fixed (n+1) s=(Rd.want Rd.rpar (Rd.loop1 Rd.rpar (Rd.arg fixed (n+1)) (n+1) (Rd.next s)).1,(Rd.loop1 Rd.rpar (Rd.arg fixed (n+1)) (n+1) (Rd.next s)).2)):=by
   unfold Rd.args;rw[if_pos Y.out.symm];exact QA rfl
  have M:Hid (LI w b g (w.heap.size+1+1) (abx w b fixed) 23 BH 72 7 (Rd.next s) [] w1):=by rw[← HT.out];exact o
  have K:=QA (Rd.next_sign Y.out.symm);have J:Hid (∀(s1:Rd.St) (out:List Rd.A) (w1:World),LI w b g (w.heap.size+1+1) (abx w b fixed) 23 BH 72 7 s1 (out.map Rd.A.d) w1→s1.rest.length≤n→s1.deep=s.deep→out.length≤1000000 →
    Calls Tryz.prog 229 #[.pointer (some ⟨w.heap.size+1+1,0,none⟩),.pointer (some ⟨w.heap.size,0,none⟩),.pointer (some ⟨w.heap.size+1,0,none⟩)] w1 λr w'=>r=.returned (.tuple #[]) ∧
     LI w b g (w.heap.size+1+1) (abx w b fixed) 23 BH 72 7 (Rd.arg fixed (n+1) s1).1 ((out++[(Rd.arg fixed (n+1) s1).2]).map Rd.A.d) w') :=
   QA λs1 out w1 hl hr hdp ho=>by
    rw[List.map_append];exact Lc w b g (w.heap.size+1+1) (abx w b fixed) w.heap.size (w.heap.size+1) fixed (n+1) (by simp[abx]) (by simp[abx]) s1 (out.map Rd.A.d) w1
     (λw2 hr2=>Je b g fixed n hnb s1 w2 hr2 hr (by rw[hdp];omega)) hl (by rw[List.length_map];exact ho)
  have R:Hid (∀s,(Rd.arg fixed (n+1) s).1.deep=s.deep):=QA (Rd.argOf_deep _ (Rd.value_deep fixed (n+1)));have U:Hid (∀s,Rd.Ok s (Rd.arg fixed (n+1) s).1):=QA (Rd.ok_argOf _ (Rd.ok_value fixed (n+1)));have N:=QA (Rd.next_deep s);have D:=QA (λs1 he=>Rd.arg_goes fixed (n+1) s1 he);have ae:(Rd.next s).rest.length+1≤n:=by have:=K.out.1;have:=HN.out;omega
  have I:w1.cell? ⟨w.heap.size,0,none⟩=some (.pointer (some ⟨b,0,none⟩)):=M.out.cellx (T:=160) (by simp[abx]);go_wp2_with fail;refine (Cv Rd.rpar (Rd.arg fixed (n+1)) (ALI w b g fixed n s.deep) b g _ _ (LG _) (λs out w' h=>h.1.rd) (λs out w1 w2 h hb=>⟨h.1.below hb,h.2⟩) (λs1 out w2 h he=>?_) (λs1 out w2 h he _=>D.out s1 he) (n+1) (Rd.next s) w1 ?_ ?_).mono ?_
  ·refine (J.out s1 out w2 h.1 h.2.2.1 h.2.1 (by have:=h.2.2.2.2;omega)).mono ?_;rintro r w3 ⟨hre,hli⟩;refine⟨hre,hli,by rw[R.out];exact h.2.1,QR (U.out s1).len h.2.2.1,λhe2=>?_,by have:=h.2.2.2.1 he;rw[QU];simp;omega⟩;rcases D.out s1 he with hx|hx
   ·exact absurd he2 hx
   ·have:=h.2.2.2.1 he;rw[QU];simp;omega
  ·refine (J.out (Rd.next s) [] w1 M.out (by omega) N.out (by simp)).mono ?_;rintro r w3 ⟨hre,hli⟩;have ad:=(U.out (Rd.next s)).len;exact⟨hre,hli,by rw[R.out];exact N.out,by omega,λ_=>by simp;omega,by simp⟩
  ·rcases D.out (Rd.next s) K.out.2 with hx|hx
   ·exact .inl hx
   ·exact .inr (by omega)
  rintro r w5 ⟨rfl,hL⟩;obtain⟨L,F⟩:∃x,x=Rd.loop1 Rd.rpar (Rd.arg fixed (n+1)) (n+1) (Rd.next s):=⟨_,rfl⟩
  rw[← F]at hL;have aa:=QA F;have HL:=QA hL;clear I F hL;have I:w5.cell? ⟨w.heap.size,0,none⟩=some (.pointer (some ⟨b,0,none⟩)):=HL.out.1.cellx (T:=160) (by simp[abx]);go_wp2_with fail;refine (BN b g L.1 Rd.rpar w5 HL.out.1.rd).mono ?_;rintro r w6 ⟨rfl,h6,f6⟩;have C:=QA (HL.out.1.step h6 f6);obtain⟨v,W,G⟩:=C.out.ex;obtain⟨O,Q,rfl⟩:=G.form;have k3:=AA W 0 (.slice O (L.2.map Rd.A.d).length Q) rfl;have X:=QA G;clear W G h6 f6 I;go_wp2_with fail;go_ret;rw[Z.out,← aa.out];refine⟨O,Q,by simp,?_,C.out.rd,C.out.fr⟩;exact X.out.reads.to (AE.sub w6 (λx _ hp=>by
   rcases hp with hp|hp
   ·have:=hp.1;show w.heap.size≤x;omega
   ·have:=QR (Bc _ _) (X.out.lt x hp).1;show w.heap.size≤x;omega))
structure GI (w0:World) (b g:Nat) (E:TypeId) (k:Nat) (s:Rd.St) (v:Value) (ds:List D) (w:World):Prop where
 rd:AL w b g s
 row:Az w (λx=>w0.heap.size≤x∧v.ownBlock≠some x) w0.heap.size E k v ds
 fr:Fr b w0 w
 lb:b<w0.heap.size
 lg:g<w0.heap.size
section
variable {w0 w w' w8 : World} {b g k : Nat} {E : TypeId} {s s' : Rd.St} {v v' : Value} {ds : List D} {d : D} {cs xs : List Value}
theorem GI.nil (h:AL w b g s) (E:TypeId) (k:Nat):GI w b g E k s (.slice none 0 0) [] w :=
 ⟨h,Az.nil _ _ _ _ _,But.refl _ _,h.lt.1,h.lt.2⟩
theorem GI.step (h:GI w0 b g E k s v ds w) (hr:AL w' b g s') (hf:Fr b w w'):GI w0 b g E k s' v ds w':=by
 have lb:=h.lb;have o:=h.fr.size;exact⟨hr,h.row.to ⟨hf.size,λx hx hp=>⟨hp,hf.block x hx (by omega)⟩⟩ (λx hx=>⟨λhp=>hp.2 hx,hf.block x (h.row.lt x hx).2 (by have:=(h.row.lt x hx).1;omega)⟩),h.fr.trans hf,h.lb,h.lg⟩
theorem GI.below (h:GI w0 b g E k s v ds w) (hb:Below w.heap.size w w'):GI w0 b g E k s v ds w':=h.step (h.rd.below hb) (But.of_below hb)
theorem GI.more (h:GI w0 b g E k s v ds w) (hx:w.ownsRow w0.heap.size E k v ds.length xs) (hR:BK w (λx=>w0.heap.size≤x∧v.ownBlock≠some x) k ds xs) (hd:Reads w (λx=>w0.heap.size≤x∧v.ownBlock≠some x) d cs)
  (hlen:cs.length=k) (hg:w.grownBy w8 v.ownBlock) (hloc:v'.ownBlock=v.ownBlock∨v'.ownBlock=some w.heap.size) (hrow:w8.ownsRow w0.heap.size E k v' (ds.length+1) (xs++cs)):GI w0 b g E k s v' (ds++[d]) w8:=by
 have lb:=h.lb;have lg:=h.lg;have C:=hx.lt;have B:∀x,x<w.heap.size→v.ownBlock≠some x→w8.heap[x]?=w.heap[x]?:=λx hx3 hn=>hg.block x hx3 (λe=>hn e.symm)
 have o:∀x,x<w0.heap.size→v.ownBlock≠some x:=λx hx2 e=>by have:=C x e;omega
 have A:AE w (λx=>w0.heap.size≤x∧v.ownBlock≠some x) w8 (λx=>w0.heap.size≤x∧v'.ownBlock≠some x):=⟨hg.size,λx hx2 hp=>⟨⟨hp.1,λe=>by
  rcases hloc with e2|e2
  ·exact hp.2 (by rw[← e2];exact e)
  ·rw[e2]at e;simp only[Option.some.injEq]at e;omega⟩,B x hx2 hp.2⟩⟩
 refine⟨h.rd.to hg.size (B b h.rd.lt.1 (o b lb)) (B g h.rd.lt.2 (o g lg)),⟨⟨xs++cs,?_,(hR.to A).snoc (hd.to A) hlen⟩,λx e hp=>hp.2 e⟩,⟨hg.os.trans h.fr.os,hg.tape.trans h.fr.tape,hg.output.trans h.fr.output,QR h.fr.size hg.size,λx hx3 hxb=>by rw[B x (Nat.lt_of_lt_of_le hx3 h.fr.size) (o x hx3)];exact h.fr.block x hx3 hxb⟩,lb,lg⟩;rw[QU];exact hrow
theorem GI.reads (h:GI w0 b g E k s v ds w):Reads w (λx=>w0.heap.size≤x) (.seq k ds) [v] :=
 h.row.reads.to (AE.sub w (λx _ hp=>by
  rcases hp with hp|hp
  ·exact hp.1
  ·exact (h.row.lt x hp).1))
theorem GI.data (h:GI w0 b g E k s v ds w) (hd:Reads w' (λx=>w.heap.size≤x) d cs):Reads w' (λx=>w0.heap.size≤x∧v.ownBlock≠some x) d cs :=
 hd.to (AE.sub w' (λx _ hp=>⟨QR h.fr.size hp,λe=>by have A:=(h.row.lt x e).2;have o:w.heap.size≤x:=hp;omega⟩))
end
theorem DF {s:ByteArray}:∀{ts:List Lx.Tok} {p q:Nat},Ce s p ts q→∀t∈ts,t.kind≤5∧1≤t.kind∧t.at_<s.size
 | [],_,_,_,t,ht=>by simp at ht
 | x::ts,p,q,h,t,ht=>by
  rcases JC.1 ht with rfl|ht
  ·exact⟨h.1.k5,h.1.k1,h.1.hi⟩
  ·exact DF h.2 t ht
theorem Lr {l:List UInt8} {ts:List Lx.Tok} (h:Lx.lex l=.ok ts):l.length≤4096:=by
 unfold Lx.lex at h;split at h
 ·cases h
 ·omega
theorem Jm {s:ByteArray} {ts:List Lx.Tok} (h:Lx.lex s.data.toList=.ok ts) (hs:Std s ts):MF ts∧0<ts.length:=by
 have E:s.size≤4096:=Lr h;obtain⟨o,rfl,B⟩:=hs.chain;have G:∀t∈o,t.text.length≤1000000000:=by
  have D:=h;unfold Lx.lex at D;rw[if_neg (by have:s.data.toList.length=s.size:=rfl;omega)]at D;obtain⟨A,e,F⟩:=Lx.lexGo_good _ _ _ _ _ (by have:s.data.toList.length=s.size:=rfl;omega) D;rw[List.nil_append]at e;have:o=A:=(List.append_inj_left' e rfl)
  subst this;exact λt ht=>(F t ht).2
 have C:∀t∈o++[(⟨0,[],s.size⟩:Lx.Tok)],t∈o∨t=⟨0,[],s.size⟩:=λt ht=>by simpa using ht
 refine⟨⟨hs.len,λt ht=>?_,λt ht=>?_,λt ht=>?_,λt ht=>?_⟩,by simp⟩
 ·rw[QU,List.length_singleton,Nat.add_sub_cancel,List.getElem?_append_right (QM _),Nat.sub_self]at ht;simp at ht;rw[← ht]
 ·rcases C t ht with h|rfl
  ·exact (DF B t h).1
  ·simp
 ·rcases C t ht with h|rfl
  ·exact G t h
  ·simp
 ·rcases C t ht with h|rfl
  ·have:=(DF B t h).2.2;omega
  ·exact E
def I0 (l:List UInt8):Prop:=∀ts,Lx.lex l=.ok ts→Std ⟨l.toArray⟩ ts
def Eh (l:List UInt8) (w:World) (r:Ending) (w':World):Prop :=
 Below w.heap.size w w'∧I0 l∧∃(g cap:Nat) (ts:List Lx.Tok) (a e:Nat),r=.returned (.agg #[.slice (some ⟨g,0,none⟩) ts.length cap,.int .i64 0,.int .i64 0,.int .i64 a,.int .i64 e])∧w.heap.size≤g∧BS w' g ts∧MF ts∧0<ts.length ∧
  Rd.begin_ l=⟨ts,0,a,e⟩
theorem Eh.rdAt {l:List UInt8} {w:World} {b g cap:Nat} {ts:List Lx.Tok} {a e:Nat} {T:TypeId} (hb:w.heap[b]?=some (.cells #[.slice (some ⟨g,0,none⟩) ts.length cap,.int .i64 0,.int .i64 0,.int .i64 a,.int .i64 e] T (0,0)))
  (hr:BS w g ts) (hne:g≠b) (hok:MF ts) (hpos:0<ts.length) (hbg:Rd.begin_ l=⟨ts,0,a,e⟩):AL w b g (Rd.begin_ l):=by
 rw[hbg];exact⟨⟨T,cap,ts,0,hb,hr,rfl,hpos,hok⟩,hne⟩
theorem F4 {w w1:World} (hb:Below w.heap.size w w1) (cs:List Value):Below w.heap.size w (putCells w1 w.heap.size 0 cs):=by
 have o:=Ao w.heap.size cs 0 w1;exact⟨o.1.trans hb.os,o.2.1.trans hb.tape,o.2.2.trans hb.output,by rw[AV];exact hb.size,λk hk=>by rw[AX _ _ (by omega)];exact hb.block k hk⟩
theorem Jw {w1:World} {g x:Nat} {ts:List Lx.Tok} (h:BS w1 g ts) (hne:g≠x) (cs:List Value):BS (putCells w1 x 0 cs) g ts :=
 h.heap (by rw[AV];exact QM _) (AX _ _ hne _ _ _)
theorem row_one (w:World) (T:TypeId):BS (w.alloc (.cells #[.int .i64 0,.string ⟨#[]⟩,.int .i64 0] T)) w.heap.size [⟨0,[],0⟩]:=by
 refine⟨by simp,λi t ht=>?_,λi t ht=>?_,λi t ht=>?_⟩ <;>
 ·have hi:i=0:=by have:=(List.getElem?_eq_some_iff.1 ht).1;simp at this;omega
  subst hi;simp at ht;subst ht;exact A4 _ _ _ _ _ _ rfl
theorem Me:MF [(⟨0,[],0⟩:Lx.Tok)]:=⟨by simp,λt ht=>by simp at ht;rw[← ht],λt ht=>by simp at ht;subst ht;simp,λt ht=>by simp at ht;subst ht;simp,λt ht=>by simp at ht;subst ht;simp⟩
theorem IG (s:ByteArray) (w:World) (hs:s.size≤9223372036854775807) (hE:Env w) (h3:3≤w.heap.size) :
  Calls Tryz.prog 38 #[.string s] w (Eh s.data.toList w):=by
 have HE:=QA hE;have C:Below w.heap.size w (w.alloc (.cells #[.slice none 0 0,.int .i64 0,.int .i64 0,.int .i64 0,.int .i64 0] 77)):=(Below.refl _ _).alloc (QM _) _;have O:=QA C;have ae:=C.size;clear hE;go_enter Tryz.func38,Tryz.ntmps38;go_wp2_with fail;refine (KD s _ hs (HE.out.below C) (by omega)).mono ?_;rintro r w1 ⟨hb1,hres⟩;clear C;have B:=QA (O.out.trans (hb1.mono O.out.size));have J:Hid (w1.heap[w.heap.size]?=some (.cells #[.slice none 0 0,.int .i64 0,.int .i64 0,.int .i64 0,.int .i64 0] 77 (0,0))):=QA (by rw[hb1.block w.heap.size (by simp)];exact AC _ _);have N:=QA hb1.size;clear hb1;obtain⟨X,W,T,U,V⟩:=BD J.out rfl rfl rfl rfl rfl;have f0:=AJ J.out 0;have f1:=AJ J.out 1;have f2:=AJ J.out 2;have f3:=AJ J.out 3;have f4:=AJ J.out 4;rcases hres with⟨ts,v,hlx,rfl,ht,hstd⟩|⟨a,c,hlx,rfl,hc⟩
 ·obtain⟨Q,G⟩:=Jm hlx hstd;obtain⟨g,D,rfl,hg,F⟩:=ht.openRow G;have L:Hid (I0 s.data.toList):=QA λts' h'=>by
   rw[hlx]at h';obtain rfl:=Lx.Res.ok.inj h';exact hstd
  have Z:=QA Q;have E:=QA hlx;have R:=QA F;have P:=QA hg;clear Q hlx F ht hstd hg;have A:g≠w.heap.size:=by have:=P.out;simp at this;omega
  have K:=QA (F4 B.out [.slice (some ⟨g,0,none⟩) ts.length D,.int .i64 0,.int .i64 0,.int .i64 0,.int .i64 0]);have I:=QA (Jw R.out A [.slice (some ⟨g,0,none⟩) ts.length D,.int .i64 0,.int .i64 0,.int .i64 0,.int .i64 0]);go_wp2_with fail;have S:=K.out;have M:=I.out;simp only[putCells,ZB,Nat.zero_add]at S M;refine bodyPost_ret (v:=.agg #[.slice (some ⟨g,0,none⟩) ts.length D,.int .i64 0,.int .i64 0,.int .i64 0,.int .i64 0]) (by simp[results,Tryz.results38,go_sem,X,W,T,U,V]) rfl ?_;exact⟨S,L.out,g,D,ts,0,0,rfl,by have:=P.out;simp at this;omega,M,Z.out,G,by unfold Rd.begin_;rw[E.out]⟩
 ·have af:((c:Int) != 0)=true:=neT (by omega);have H:Below w1.heap.size w1 (w1.alloc (.cells #[.int .i64 0,.string ⟨#[]⟩,.int .i64 0] 136)):=(Below.refl _ _).alloc (QM _) _;have K:=QA (F4 (B.out.trans (H.mono B.out.size)) [.slice (some ⟨w1.heap.size,0,none⟩) 1 1,.int .i64 0,.int .i64 0,.int .i64 a,.int .i64 c]);have A:w1.heap.size≠w.heap.size:=by have:=N.out;simp at this;omega
  have n1:¬w1.heap.size=w.heap.size:=A;have n2:¬w.heap.size=w1.heap.size:=λe=>A e.symm
  have I:=QA (Jw (row_one w1 136) A [.slice (some ⟨w1.heap.size,0,none⟩) 1 1,.int .i64 0,.int .i64 0,.int .i64 a,.int .i64 c]);have E:=QA hlx;have Y:=QA B.out.size;have o:Hid ((w1.alloc (.cells #[.int .i64 0,.string ⟨#[]⟩,.int .i64 0] 136)).heap[w.heap.size]?=some (.cells #[.slice none 0 0,.int .i64 0,.int .i64 0,.int .i64 0,.int .i64 0] 77 (0,0))):=QA (by
   rw[Lib.alloc_old _ _ _ (by have:=N.out;simp at this;omega)];exact J.out)
  clear H hlx X W T U V f0 f1 f2 f3 f4;obtain⟨X,W,T,U,V⟩:=BD o.out rfl rfl rfl rfl rfl;have f0:=AJ o.out 0;have f1:=AJ o.out 1;have f2:=AJ o.out 2;have f3:=AJ o.out 3;have f4:=AJ o.out 4;go_wp2_with fail;have S:=K.out;have M:=I.out;simp only[putCells,ZB,Nat.zero_add]at S M;refine bodyPost_ret (v:=.agg #[.slice (some ⟨w1.heap.size,0,none⟩) 1 1,.int .i64 0,.int .i64 0,.int .i64 a,.int .i64 c]) (by simp[results,Tryz.results38,go_sem,X,W,T,U,V]) rfl ?_;exact⟨S,(λts' h'=>by rw[E.out]at h';cases h'),w1.heap.size,1,[⟨0,[],0⟩],a,c,rfl,Y.out,M,Me,by simp,by unfold Rd.begin_;rw[E.out]⟩
def sds (l:List (List UInt8)):List D:=l.map D.str
structure NI (w0:World) (b g:Nat) (s:Rd.St) (v:Value) (out:List (List UInt8)) (w:World):Prop where
 rd:AL w b g s
 row:Az w (λ_=>False) w0.heap.size 9 1 v (sds out)
 fr:Fr b w0 w
 lb:b<w0.heap.size
 lg:g<w0.heap.size
theorem NI.step {w0 w w':World} {b g:Nat} {s s':Rd.St} {v:Value} {out:List (List UInt8)} (h:NI w0 b g s v out w) (hr:AL w' b g s') (hf:Fr b w w'):NI w0 b g s' v out w':=by
 have lb:=h.lb;have o:=h.fr.size;exact⟨hr,h.row.to ⟨hf.size,λx _ hp=>hp.elim⟩ (λx hx=>⟨λhp=>hp,hf.block x (h.row.lt x hx).2 (by have:=(h.row.lt x hx).1;omega)⟩),h.fr.trans hf,h.lb,h.lg⟩
theorem N1 (l:List (List UInt8)):(sds l).length=l.length:=by simp[sds]
theorem NI.more {w0 w w8:World} {b g:Nat} {s:Rd.St} {v v':Value} {out:List (List UInt8)} {t:List UInt8} (h:NI w0 b g s v out w) (hg:w.grownBy w8 v.ownBlock)
  {xs:List Value} (hx2:w.ownsRow w0.heap.size 9 1 v out.length xs) (hR:BK w (λ_=>False) 1 (sds out) xs) (hrow:w8.ownsRow w0.heap.size 9 1 v' (out.length+1) (xs++[.string ⟨t.toArray⟩])):NI w0 b g s v' (out++[t]) w8:=by
 have lb:=h.lb;have lg:=h.lg;have o:=hx2.lt;have A:∀x,x<w0.heap.size→w8.heap[x]?=w.heap[x]?:=λx hx3=>hg.block x (Nat.lt_of_lt_of_le hx3 h.fr.size) (λe=>by have:=(o x e.symm).1;omega)
 refine⟨h.rd.to hg.size (A b lb) (A g lg),⟨⟨xs++[.string ⟨t.toArray⟩],?_,?_⟩,λx _ hp=>hp⟩,⟨hg.os.trans h.fr.os,hg.tape.trans h.fr.tape,hg.output.trans h.fr.output,QR h.fr.size hg.size,λx hx3 hxb=>by rw[A x hx3];exact h.fr.block x hx3 hxb⟩,lb,lg⟩
 ·rw[N1,QU];exact hrow
 ·have B:AE w (λ_=>False) w8 (λ_=>False):=⟨hg.size,λx _ hp=>hp.elim⟩
  have:sds (out++[t])=sds out++[D.str t]:=by simp[sds]
  rw[this];exact (hR.to B).snoc (.str t) rfl
structure BI (w0:World) (b g t6:Nat) (bx:List Box) (T6:TypeId) (c6:Array Value) (s:Rd.St) (w:World):Prop where
 rd:AL w b g s
 cb:∀p∈bx,w.heap[p.1]?=some p.2
 b6:w.heap[t6]?=some (.cells c6 T6 (0,0))
 fr:Fr b w0 w
 lb:b<w0.heap.size
 lg:g<w0.heap.size
 lx:∀p∈bx,w0.heap.size≤p.1∧p.1<t6
 l6:w0.heap.size≤t6
section
variable {w0 w w' : World} {b g t6 : Nat} {bx : List Box} {T6 : TypeId} {c6 : Array Value} {s s' : Rd.St}
theorem BI.step (h:BI w0 b g t6 bx T6 c6 s w) (hr:AL w' b g s') (hf:Fr b w w'):BI w0 b g t6 bx T6 c6 s' w':=by
 have lb:=h.lb;have l6:=h.l6;refine⟨hr,λp hp=>?_,?_,h.fr.trans hf,lb,h.lg,h.lx,l6⟩
 ·have o:=h.cb p hp;have A:=h.lx p hp;rw[hf.block p.1 (block_lt o) (by omega)];exact o
 ·rw[hf.block t6 (block_lt h.b6) (by omega)];exact h.b6
theorem BI.below (h:BI w0 b g t6 bx T6 c6 s w) (hb:Below w.heap.size w w'):BI w0 b g t6 bx T6 c6 s w':=h.step (h.rd.below hb) (But.of_below hb)
theorem BI.put (h:BI w0 b g t6 bx T6 c6 s w) (j:Nat) (v:Value):BI w0 b g t6 bx T6 (c6.setIfInBounds j v) s (w.setCell ⟨t6,j,none⟩ v):=by
 have lb:=h.lb;have lg:=h.lg;have l6:=h.l6;refine⟨h.rd.set_ne (by omega) (by omega) _ _,λp hp=>?_,Af h.b6,h.fr.setCell (.inr l6) v,lb,lg,h.lx,l6⟩;have o:=h.lx p hp;rw[AK (by omega)];exact h.cb p hp
theorem BI.cellx (h:BI w0 b g t6 bx T6 c6 s w) {t:Nat} {v:Value} {T:TypeId} (hp:(t,Obj.cells #[v] T (0,0))∈bx):w.cell? ⟨t,0,none⟩=some v:=by
 have:=h.cb _ hp;simp only at this;simp[World.cell?,this]
theorem BI.fin {d:D} {cs:List Value} {P:Nat→Prop} {r:Nat} {o:Obj} (h:BI w0 b g t6 bx T6 cs.toArray s w) (hr:(r,o)∈bx) (hd:Reads w P d cs) (hP:∀x,P x→t6<x) :
  Reads (putCells w r 0 cs) (λx=>w0.heap.size≤x) d cs∧AL (putCells w r 0 cs) b g s∧Fr b w0 (putCells w r 0 cs):=by
 have lb:=h.lb;have lg:=h.lg;have l6:=h.l6;have E:=h.lx _ hr;simp only at E;have B:∀x,x≠r→(putCells w r 0 cs).heap[x]?=w.heap[x]?:=λx h1=>AX _ _ h1 _ _ _
 have A:=AV r cs 0 w;have C:=Ao r cs 0 w;refine⟨hd.to ⟨by rw[A];exact QM _,λx hx hp=>⟨by have:=hP x hp;show w0.heap.size≤x;omega,B x (by have:=hP x hp;omega)⟩⟩,h.rd.to (by rw[A];exact QM _) (B b (by omega)) (B g (by omega)),⟨C.1.trans h.fr.os,C.2.1.trans h.fr.tape,C.2.2.trans h.fr.output,by rw[A];exact h.fr.size,λx hx hxb=>by
  rw[B x (by omega)];exact h.fr.block x hx hxb⟩⟩
end
namespace Sd
def In.d (x:In):D:=.obj [.str x.name,.str x.type,.bool x.has,x.dflt.d,.int x.at_]
def Fd.d (x:Fd):D:=.obj [.str x.name,.seq 9 (x.args.map In.d),.str x.type,.int x.at_]
def Td.d (x:Td):D:=.obj [.int x.kind,.str x.name,.seq 1 (sds x.impl),.seq 4 (x.fields.map Fd.d),.seq 1 (sds x.members),.seq 9 (x.inputs.map In.d),.int x.at_]
end Sd
def FLI {α:Type} (w0:World) (b g t6:Nat) (bx:List Box) (T6:TypeId) (mk:Value→Array Value) (E:TypeId) (k:Nat) (dd:α→D) (m:Nat) (d1:Int) (s:Rd.St) (out:List α) (w:World):Prop :=
 LI w0 b g t6 bx T6 mk E k s (out.map dd) w∧s.deep=d1∧s.rest.length≤m∧(s.err=0→out.length+s.rest.length≤1602)∧out.length≤1603
theorem BI.li {w0 w:World} {b g t6 k:Nat} {bx:List Box} {T6 E:TypeId} {mk:Value→Array Value} {s:Rd.St} (h:BI w0 b g t6 bx T6 (mk (.slice none 0 0)) s w):LI w0 b g t6 bx T6 mk E k s [] w :=
 ⟨h.rd,h.cb,⟨_,h.b6,Az.nil _ _ _ _ _⟩,h.fr,h.lb,h.lg,λp hp=>⟨(h.lx p hp).1,by have:=(h.lx p hp).2;omega⟩,h.l6⟩
theorem LI.bi {w0 w:World} {b g t6 k:Nat} {bx:List Box} {T6 E:TypeId} {mk:Value→Array Value} {s:Rd.St} {ds:List D} (h:LI w0 b g t6 bx T6 mk E k s ds w) {bx':List Box} (hs:∀p∈bx',p∈bx∧p.1<t6) :
  ∃a c,BI w0 b g t6 bx' T6 (mk (.slice a ds.length c)) s w∧Reads w (λx=>t6<x) (.seq k ds) [.slice a ds.length c]:=by
 obtain⟨v,A,o⟩:=h.ex;obtain⟨a,c,rfl⟩:=o.form;have B:=Bc t6 bx;exact⟨a,c,⟨h.rd,λp hp=>h.cb p (hs p hp).1,A,h.fr,h.lb,h.lg,λp hp=>⟨(h.lx0 p (hs p hp).1).1,(hs p hp).2⟩,h.l6⟩,o.reads.to (AE.sub w (λx _ hp=>by
  rcases hp with hp|hp
  ·exact hp.1
  ·have:=(o.lt x hp).1;show t6<x;omega))⟩
theorem ME {w:World} {P:Nat→Prop} {x:Sd.In} {cs:List Value} (h:Reads w P x.d cs):∃(nm ty t:ByteArray) (hb:Bool) (k a b':Int) (a1 a2:Option Addr) (n1 c1 n2 c2:Nat),cs=[.string nm,.string ty,.bool hb,.int .i64 k,.string t,.slice a1 n1 c1,.slice a2 n2 c2,.int .i64 a,.int .i64 b']:=by
 unfold Sd.In.d at h;obtain⟨K,J,rfl,C,o⟩:=h.obj_inv.cons_inv;obtain⟨L,Q,rfl,A,F⟩:=o.cons_inv;obtain⟨S,N,rfl,H,I⟩:=F.cons_inv;obtain⟨T,M,rfl,G,E⟩:=I.cons_inv;obtain⟨R,O,rfl,D,B⟩:=E.cons_inv;obtain rfl:=C.str_inv;obtain rfl:=A.str_inv;obtain rfl:=H.bool_inv;obtain⟨k,a,t,a1,a2,n1,c1,n2,c2,rfl⟩:=Dp G;obtain rfl:=D.int_inv;obtain rfl:=B.nil_inv;exact⟨_,_,_,_,_,_,_,_,_,_,_,_,_,rfl⟩
section
variable {w : World} {P : Nat → Prop}
end
theorem Ku {n b:Nat} {w w2 wr:World} (h:Below n w w2) (hw:n≤w.heap.size) (hf:Fr b w2 wr) (hb:n≤b):Below n w wr :=
 ⟨hf.os.trans h.os,hf.tape.trans h.tape,hf.output.trans h.output,QR h.size hf.size,λk hk=>by rw[hf.block k (by have:=h.size;omega) (by omega)];exact h.block k hk⟩
theorem L1 (b g:Nat) (s:Rd.St) (w:World) (h:AL w b g s) :
  Calls Tryz.prog 40 #[.pointer (some ⟨b,0,none⟩)] w λr w'=>r=.returned (.tuple #[])∧AL w' b g (Rd.fin s)∧Fr b w w':=by
 have H:=QA h;clear h;go_enter Tryz.func40,Tryz.ntmps40;go_wp2_with fail;refine (A2 b g s w H.out).mono ?_;rintro r w1 ⟨rfl,hb1⟩;have E:=QA (H.out.below hb1);have B:=QA hb1;obtain⟨C,o⟩:∃z,z=Rd.peek s:=⟨_,rfl⟩
 have A:=QA o;rw[← o];clear hb1 o;by_cases hk:C.kind=0
 ·have F:=neF (n:=C.kind) (k:=0) (by omega);have D:Hid (Rd.fin s=s):=QA (by unfold Rd.fin;rw[if_neg (by rw[← A.out];simp[hk])]);clear hk;go_wp2_with fail;go_end0;exact⟨rfl,by rw[D.out];exact E.out,But.of_below B.out⟩
 ·have F:=neT (n:=C.kind) (k:=0) (by omega);have D:Hid (Rd.fin s=Rd.wrong s):=QA (by unfold Rd.fin;rw[if_pos (by rw[← A.out];exact hk)]);clear hk;go_wp2_with fail;refine (A7 b g s _ E.out).mono ?_;rintro r w2 ⟨rfl,h2,f2⟩;go_wp2_with fail;go_end0;exact⟨rfl,by rw[D.out];exact h2,(But.of_below B.out).trans f2⟩
def Ow (l:List UInt8) (w:World) (r:Ending) (w':World):Prop :=
 Below w.heap.size w w' ∧
  (
   ((Vl.parseType l).1.err=0∧r=.returned (.tuple #[.string ⟨(Vl.parseType l).2.toArray⟩,.int .i64 0,.int .i64 0])) ∨
   ((Vl.parseType l).1.err≠0∧r=.returned (.tuple #[.string ⟨#[]⟩,.int .i64 (Vl.parseType l).1.at_,.int .i64 (Vl.parseType l).1.err])))
theorem Li (s:ByteArray) (w:World) (hs:s.size≤9223372036854775807) (hE:Env w) (h3:3≤w.heap.size) :
  Calls Tryz.prog 178 #[.string s] w (Ow s.data.toList w):=by
 have V:=QA hE;clear hE;go_enter Tryz.func178,Tryz.ntmps178;go_wp2_with fail;refine (IG s w hs V.out h3).mono ?_;rintro r w1 ⟨hb1,hstd,g,cap,ts,a,e,rfl,hg,hrow,hok,hpos,hbg⟩;obtain⟨M,B⟩:∃z,z=w1.alloc (.cells #[.slice (some ⟨g,0,none⟩) ts.length cap,.int .i64 0,.int .i64 0,.int .i64 a,.int .i64 e] 77):=⟨_,rfl⟩
 obtain⟨E,C⟩:∃z,z=Rd.begin_ s.data.toList:=⟨_,rfl⟩
 have D:Below w1.heap.size w1 M:=by rw[B];exact (Below.refl _ _).alloc (QM _) _
 have Q:AL M w1.heap.size g E:=by
  rw[C];have R:=hrow.lt;exact Eh.rdAt (T:=77) (by rw[B];exact AC _ _) (hrow.heap D.size (D.block g R)) (by omega) hok hpos hbg
 have N:=QA (hb1.trans (D.mono hb1.size));have hm:=Q.rest_len;obtain⟨n,S⟩:∃z,z=E.rest.length:=⟨_,rfl⟩
 have o:Hid (Vl.parseType s.data.toList=(Rd.fin (Rd.type (n+1) E).1,(Rd.type (n+1) E).2)):=by rw[S,C];exact QA rfl
 have Z:E.deep=0:=by rw[C,hbg]
 have ad:n≤1501:=by omega
 have I:=hb1.size;have G:=QA (Fv w1.heap.size g n E M Q (.inr (by omega)) (by omega) ⟨by omega,by omega⟩);have HX:=QA B;rw[B]at G;clear hstd C S hbg D Q hrow hok hb1 hm hg B;go_wp2_with fail;refine G.out.mono ?_;rw[← HX.out];rintro r w3 ⟨rfl,hr3,hf3⟩;obtain⟨W,F⟩:∃z,z=(Rd.type (n+1) E).2:=⟨_,rfl⟩
 obtain⟨U,J⟩:∃z,z=(Rd.type (n+1) E).1:=⟨_,rfl⟩
 rw[← F]at o;rw[← J]at hr3 o
 try rw[← F]
 have O:=QA hf3;have P:=QA hr3;clear hf3 hr3 F J G;go_wp2_with fail;refine (L1 w1.heap.size g U w3 P.out).mono ?_;rintro r w5 ⟨rfl,hr5,hf5⟩;obtain⟨K,H⟩:∃z,z=Rd.fin U:=⟨_,rfl⟩
 rw[← H]at hr5 o;have aa:=hr5.c4;have X:=hr5.c3;have L:Hid (Below w.heap.size w w5):=QA (Ku (b:=w1.heap.size) N.out (QM _) (O.out.trans hf5) I);clear hr5 hf5 H;by_cases he:K.err=0
 ·have Y:=neF (n:=K.err) (k:=0) (by omega);have A:=QA he;clear he;go_wp2_with fail;refine bodyPost_ret (v:=.tuple #[.string ⟨W.toArray⟩,.int .i64 0,.int .i64 0]) (by simp[results,Tryz.results178,go_sem]) rfl ?_;refine⟨L.out,.inl ?_⟩;rw[o.out];exact⟨A.out,rfl⟩
 ·have Y:=neT (n:=K.err) (k:=0) (by omega);have A:=QA he;clear he;go_wp2_with fail;refine AF [] (by kernel_rfl) (by kernel_rfl) ?_;simp only[Ae,List.take_succ_cons,List.take_zero,List.drop_succ_cons,List.drop_zero,Nat.sub_zero,Nat.reduceSub,ZB]
  repeat (go_big_quiet_step (fail))
  refine wpQuiet_nil ?_;rintro _ ⟨nq,rfl⟩;go_wp2_with fail;refine bodyPost_ret (v:=.tuple #[.string ⟨#[]⟩,.int .i64 K.at_,.int .i64 K.err]) (by simp[results,Tryz.results178,go_sem]) rfl ?_;refine⟨Below.drewN L.out _,.inr ?_⟩;rw[o.out];exact⟨A.out,rfl⟩
end Go.Proofs.YtefjgpkpplkkgaaGreatDoor
