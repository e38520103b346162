/-
  'Same' of documents, walked at any answer.
-/
import Derived.Test.YtefjgpkpplkkgaaGreatDoorZo25
import Derived.Test.YtefjgpkpplkkgaaGreatDoorZo14
open Go.Lib renaming hid → QA
open List renaming mem_of_getElem? → ZE, drop_eq_nil_of_le → ZH, getElem?_map → ZK, getElem?_eq_getElem → ZL
open Nat renaming le_refl → QM, zero_le → ZX
namespace Go.Proofs.YtefjgpkpplkkgaaGreatDoor
set_option maxRecDepth 100000
set_option maxHeartbeats 4000000
set_option linter.unusedSimpArgs false
set_option linter.unusedVariables false
open Go Go.RowKit
def ElA (x y:Vl.ZA):Prop:=∀(a1 a2 b1 b2:Option Addr) (c1 c2 d1 d2:Nat) (w:World) (P:Nat→Prop),Reads w P x.d [.string ⟨x.name.toArray⟩,.int .i64 x.v.kind,.string ⟨x.v.text.toArray⟩,.slice a1 x.v.items.length c1,.slice a2 x.v.fields.length c2,.int .i64 x.v.at_,.int .i64 x.at_]→Reads w P y.d [.string ⟨y.name.toArray⟩,.int .i64 y.v.kind,.string ⟨y.v.text.toArray⟩,.slice b1 y.v.items.length d1,.slice b2 y.v.fields.length d2,.int .i64 y.v.at_,.int .i64 y.at_] →
 Calls Tryz.prog 183 #[.agg #[.string ⟨x.name.toArray⟩,.int .i64 x.v.kind,.string ⟨x.v.text.toArray⟩,.slice a1 x.v.items.length c1,.slice a2 x.v.fields.length c2,.int .i64 x.v.at_,.int .i64 x.at_],.agg #[.string ⟨y.name.toArray⟩,.int .i64 y.v.kind,.string ⟨y.v.text.toArray⟩,.slice b1 y.v.items.length d1,.slice b2 y.v.fields.length d2,.int .i64 y.v.at_,.int .i64 y.at_]] w (λr w'=>r=.returned (.bool (Vl.ZA.same x y))∧Below w.heap.size w w')
theorem P1 (xs ys:List Vl.ZA) (IH:∀x∈xs,∀y,ElA x y) (a b:Option Addr) (c d:Nat) (w:World) (P:Nat→Prop) (hlx:xs.length≤9223372036854775807)
  (hrx:Reads w P (.seq 7 (xs.map Vl.ZA.d)) [.slice a xs.length c]) (hry:Reads w P (.seq 7 (ys.map Vl.ZA.d)) [.slice b ys.length d]) :
  Calls Tryz.prog 44 #[.slice a xs.length c,.slice b ys.length d,.func (.func 183) #[] #[]] w (λr w'=>r=.returned (.bool (Dq.sameL Vl.ZA.same xs ys))∧Below w.heap.size w w'):=by
 have aa:=QA hrx;have ad:=QA hry;have ac:=QA IH;clear hrx hry IH;by_cases F:xs.length=ys.length;rotate_left
 ·have e0:((xs.length:Int) != (ys.length:Int))=true:=neT (by omega);have HS:Hid (Dq.sameL Vl.ZA.same xs ys=false):=QA (Dq.sameL_ne F);go_enter Tryz.func44,Tryz.ntmps44;go_wp2_with fail;go_ret;exact⟨by rw[HS.out];rfl,Below.refl _ _⟩
 have e0:((xs.length:Int) != (ys.length:Int))=false:=neF (by omega);obtain⟨S,hS⟩:∃S,S=Dq.sameL Vl.ZA.same xs ys:=⟨_,rfl⟩
 have HS:=QA hS;rw[← hS];clear hS;have O:=QA F;clear F;go_enter Tryz.func44,Tryz.ntmps44;go_wp2_with fail
 go_loopg [17] (xs.length+1) (λk i wr=>∃(j:Nat),k=xs.length+1-j∧j≤xs.length∧i=.int .i64 j∧S=Dq.sameL Vl.ZA.same (xs.drop j) (ys.drop j)∧Below w.heap.size w wr)
 case atStart=>exact⟨0,rfl,ZX _,rfl,HS.out,Below.refl _ _⟩
 case round =>
  obtain⟨j,hk,hj,rfl,hs,Y⟩:=hrel;have HK:=QA hk;have U:=QA hs;have E:=QA Y;clear hk hs Y;by_cases hjl:j<xs.length
  ·have e1:decide (j<xs.length)=true:=decide_eq_true hjl;have V:j<ys.length:=by have:=O.out;omega
   have e2:decide (j<ys.length)=true:=decide_eq_true V;obtain⟨x,Z⟩:∃z,xs[j]?=some z:=⟨xs[j],ZL hjl⟩
   obtain⟨y,hy⟩:∃z,ys[j]?=some z:=⟨ys[j],ZL V⟩
   have N:Hid (S=(Vl.ZA.same x y&&Dq.sameL Vl.ZA.same (xs.drop (j+1)) (ys.drop (j+1)))):=by have:=U.out;rw[Dq.drop_at Z,Dq.drop_at hy,Dq.sameL]at this;exact QA this
   have am:=QA (ac.out x (ZE Z) y);obtain⟨g,o,cs,ha,-,G,F,B,hd⟩:=aa.out.el j x.d (by rw[ZK,Z];rfl);obtain⟨J,I,aM,hb,-,C,T,A,R⟩:=ad.out.el j y.d (by rw[ZK,hy];rfl);obtain⟨a1,a2,u1,u2,rfl,-⟩:=BZ hd;obtain⟨b1,b2,v1,v2,rfl,-⟩:=BZ R;have k0:wr.cell? ⟨g,o+j*7,none⟩=_:=(E.out.cell (p:=⟨g,o+j*7,none⟩) G).trans (B 0 _ rfl);have k1:wr.cell? ⟨g,o+j*7+1,none⟩=_:=(E.out.cell (p:=⟨g,o+j*7+1,none⟩) G).trans (B 1 _ rfl);have k2:wr.cell? ⟨g,o+j*7+2,none⟩=_:=(E.out.cell (p:=⟨g,o+j*7+2,none⟩) G).trans (B 2 _ rfl);have k3:wr.cell? ⟨g,o+j*7+3,none⟩=_:=(E.out.cell (p:=⟨g,o+j*7+3,none⟩) G).trans (B 3 _ rfl);have k4:wr.cell? ⟨g,o+j*7+4,none⟩=_:=(E.out.cell (p:=⟨g,o+j*7+4,none⟩) G).trans (B 4 _ rfl);have k5:wr.cell? ⟨g,o+j*7+5,none⟩=_:=(E.out.cell (p:=⟨g,o+j*7+5,none⟩) G).trans (B 5 _ rfl);have k6:wr.cell? ⟨g,o+j*7+6,none⟩=_:=(E.out.cell (p:=⟨g,o+j*7+6,none⟩) G).trans (B 6 _ rfl);obtain⟨Q,K⟩:∃z,z=wr.alloc (.cells #[.string ⟨x.name.toArray⟩,.int .i64 x.v.kind,.string ⟨x.v.text.toArray⟩,.slice a1 x.v.items.length u1,.slice a2 x.v.fields.length u2,.int .i64 x.v.at_,.int .i64 x.at_] 72):=⟨_,rfl⟩
   have D:Below w.heap.size w Q:=by rw[K];exact E.out.alloc E.out.size _
   have m0:Q.cell? ⟨J,I+j*7,none⟩=_:=(D.cell (p:=⟨J,I+j*7,none⟩) C).trans (A 0 _ rfl);have m1:Q.cell? ⟨J,I+j*7+1,none⟩=_:=(D.cell (p:=⟨J,I+j*7+1,none⟩) C).trans (A 1 _ rfl);have m2:Q.cell? ⟨J,I+j*7+2,none⟩=_:=(D.cell (p:=⟨J,I+j*7+2,none⟩) C).trans (A 2 _ rfl);have m3:Q.cell? ⟨J,I+j*7+3,none⟩=_:=(D.cell (p:=⟨J,I+j*7+3,none⟩) C).trans (A 3 _ rfl);have m4:Q.cell? ⟨J,I+j*7+4,none⟩=_:=(D.cell (p:=⟨J,I+j*7+4,none⟩) C).trans (A 4 _ rfl);have m5:Q.cell? ⟨J,I+j*7+5,none⟩=_:=(D.cell (p:=⟨J,I+j*7+5,none⟩) C).trans (A 5 _ rfl);have m6:Q.cell? ⟨J,I+j*7+6,none⟩=_:=(D.cell (p:=⟨J,I+j*7+6,none⟩) C).trans (A 6 _ rfl);rw[K]at m0 m1 m2 m3 m4 m5 m6;subst ha;subst hb;obtain⟨wc,M⟩:∃z,z=(wr.alloc (.cells #[.string ⟨x.name.toArray⟩,.int .i64 x.v.kind,.string ⟨x.v.text.toArray⟩,.slice a1 x.v.items.length u1,.slice a2 x.v.fields.length u2,.int .i64 x.v.at_,.int .i64 x.at_] 72)).alloc (.cells #[.string ⟨y.name.toArray⟩,.int .i64 y.v.kind,.string ⟨y.v.text.toArray⟩,.slice b1 y.v.items.length v1,.slice b2 y.v.fields.length v2,.int .i64 y.v.at_,.int .i64 y.at_] 72):=⟨_,rfl⟩
   have L:Below w.heap.size w wc:=by rw[M,← K];exact D.alloc D.size _
   have X:=QA L;have H:=QA (am.out a1 a2 b1 b2 u1 u2 v1 v2 wc P (hd.to (AE.below L)) (R.to (AE.below L)));rw[M]at H;have an:=QA M;clear Z hy F T B A hd R D L K M U;go_wp2_with fail;refine H.out.mono ?_;rintro r w2 ⟨rfl,hb2⟩;rw[← an.out]at hb2;have W:=QA (X.out.trans (hb2.mono X.out.size));clear hb2 k0 k1 k2 k3 k4 k5 k6 m0 m1 m2 m3 m4 m5 m6 H;obtain⟨q,hq⟩:∃q,q=Vl.ZA.same x y:=⟨_,rfl⟩
   rw[← hq];have HQ:=QA hq;clear hq;cases q
   ·go_wp2_with fail;go_ret;exact⟨by rw[N.out,← HQ.out];rfl,W.out⟩
   ·go_wp2_with fail;go_roundg (xs.length+1-(j+1))
    case measure=>rw[HK.out];omega
    case rel=>exact⟨j+1,rfl,hjl,by go_num,by rw[N.out,← HQ.out];rfl,W.out⟩
  ·have e1:decide (j<xs.length)=false:=decide_eq_false hjl;have N:Hid (S=true):=by
    have:=U.out;rw[ZH (by omega),ZH (by have:=O.out;omega),Dq.sameL]at this;exact QA this
   go_wp2_with fail;go_ret;exact⟨by rw[N.out];rfl,E.out⟩
theorem Qa (x y:Vl.ZA) (hc:x.cost≤1000000000):ElA x y:=by
 intro a1 a2 b1 b2 c1 c2 d1 d2 w P hx hy;have J:=hx;have F:=hy;have I:=N4 (n:=[]) (k:=0) (t:=⟨#[]⟩) (a:=0) (b:=0) hx;have G:=N4 (n:=[]) (k:=0) (t:=⟨#[]⟩) (a:=0) (b:=0) hy;have V:x.v.n≤1000000000:=by have:=Vl.ZA.cost_eq x;have:=Vl.Z.n_cost x.v;omega
 obtain⟨B,o⟩:∃z,z=(w.alloc (.cells #[.string ⟨x.name.toArray⟩,.int .i64 x.v.kind,.string ⟨x.v.text.toArray⟩,.slice a1 x.v.items.length c1,.slice a2 x.v.fields.length c2,.int .i64 x.v.at_,.int .i64 x.at_] 72)).alloc (.cells #[.string ⟨y.name.toArray⟩,.int .i64 y.v.kind,.string ⟨y.v.text.toArray⟩,.slice b1 y.v.items.length d1,.slice b2 y.v.fields.length d2,.int .i64 y.v.at_,.int .i64 y.at_] 72):=⟨_,rfl⟩
 have E:Below w.heap.size w B:=by rw[o];exact ((Below.refl _ _).alloc (QM _) _).alloc (by simp) _
 have L:Hid (B.heap[w.heap.size]?=some (.cells #[.string ⟨x.name.toArray⟩,.int .i64 x.v.kind,.string ⟨x.v.text.toArray⟩,.slice a1 x.v.items.length c1,.slice a2 x.v.fields.length c2,.int .i64 x.v.at_,.int .i64 x.at_] 72 (0,0))):=by rw[o];exact QA (by rw[Lib.alloc_old _ _ _ (by simp)];exact AC _ _)
 have M:Hid (B.heap[w.heap.size+1]?=some (.cells #[.string ⟨y.name.toArray⟩,.int .i64 y.v.kind,.string ⟨y.v.text.toArray⟩,.slice b1 y.v.items.length d1,.slice b2 y.v.fields.length d2,.int .i64 y.v.at_,.int .i64 y.at_] 72 (0,0))):=by
  rw[o];have:=AC (w.alloc (.cells #[.string ⟨x.name.toArray⟩,.int .i64 x.v.kind,.string ⟨x.v.text.toArray⟩,.slice a1 x.v.items.length c1,.slice a2 x.v.fields.length c2,.int .i64 x.v.at_,.int .i64 x.at_] 72)) (.cells #[.string ⟨y.name.toArray⟩,.int .i64 y.v.kind,.string ⟨y.v.text.toArray⟩,.slice b1 y.v.items.length d1,.slice b2 y.v.fields.length d2,.int .i64 y.v.at_,.int .i64 y.at_] 72);rw[show (w.alloc (.cells #[.string ⟨x.name.toArray⟩,.int .i64 x.v.kind,.string ⟨x.v.text.toArray⟩,.slice a1 x.v.items.length c1,.slice a2 x.v.fields.length c2,.int .i64 x.v.at_,.int .i64 x.at_] 72)).heap.size=w.heap.size+1 by simp]at this;exact QA this
 have T:B.heap.size=w.heap.size+2:=by rw[o];simp
 have C:=QA E;have D:=QA o;have A:Hid (Vl.ZA.same x y=(decide (x.name=y.name)&&(x.v.same y.v))):=QA (Vl.ZA.same_eq x y);obtain⟨S,O⟩:∃S,S=Vl.ZA.same x y:=⟨_,rfl⟩
 rw[← O]at A ⊢;clear hx hy J F E o O;obtain⟨Q,H⟩:∃q,(x.name==y.name)=q:=⟨_,rfl⟩
 have N:Hid (decide (x.name=y.name)=Q):=QA (by rw[← H];by_cases h:x.name=y.name<;>simp[h]);cases Q
 ·go_enter Tryz.func183,Tryz.ntmps183;go_wp2_with fail;go_ret;exact⟨by rw[A.out,N.out];rfl,by rw[← D.out];exact C.out⟩
 go_enter Tryz.func183,Tryz.ntmps183;go_wp2_with fail;rw[← D.out];refine (Dl 1000000000 (by decide) x.v y.v V a1 a2 b1 b2 c1 c2 d1 d2 B P (I.to (AE.below C.out)) (G.to (AE.below C.out))).mono ?_;rintro r w1 ⟨rfl,hb⟩;have U:=QA (C.out.trans (hb.mono C.out.size));have Y:Hid (w1.heap[w.heap.size]?=_):=QA ((hb.block _ (block_lt L.out)).trans L.out);have X:Hid (w1.heap[w.heap.size+1]?=_):=QA ((hb.block _ (block_lt M.out)).trans M.out);clear hb;obtain⟨W,K⟩:∃q,q=x.v.same y.v:=⟨_,rfl⟩
 rw[← K];have R:=QA K.symm;clear K;go_wp2_with fail;go_ret;exact⟨by rw[A.out,N.out,R.out];rfl,U.out⟩
theorem PE (xs ys:List Vl.ZA) (IH:∀x∈xs,∀y,ElA x y) (a b:Option Addr) (c d:Nat) (w:World) (P:Nat→Prop) (hlx:xs.length≤1000000000)
  (hrx:Reads w P (.seq 7 (xs.map Vl.ZA.d)) [.slice a xs.length c]) (hry:Reads w P (.seq 7 (ys.map Vl.ZA.d)) [.slice b ys.length d]) :
  Calls Tryz.prog 124 #[.slice a xs.length c,.slice b ys.length d] w (λr w'=>r=.returned (.bool (Dq.sameL Vl.ZA.same xs ys))∧Below w.heap.size w w'):=by
 have o:=QA (P1 xs ys IH a b c d w P (by omega) hrx hry);clear hrx hry IH;go_enter Tryz.func124,Tryz.ntmps124;go_wp2_with fail;refine o.out.mono ?_;rintro r w2 ⟨rfl,hb2⟩;go_wp2_with fail;go_ret;exact⟨rfl,hb2⟩
theorem GW (xs ys:List Vl.ZA) (hc:Dq.argsC xs≤1000000000) (a b:Option Addr) (c d:Nat) (w:World) (P:Nat→Prop) (hlx:xs.length≤1000000000)
  (hrx:Reads w P (.seq 7 (xs.map Vl.ZA.d)) [.slice a xs.length c]) (hry:Reads w P (.seq 7 (ys.map Vl.ZA.d)) [.slice b ys.length d]) :
  Calls Tryz.prog 124 #[.slice a xs.length c,.slice b ys.length d] w (λr w'=>r=.returned (.bool (Dq.sameL Vl.ZA.same xs ys))∧Below w.heap.size w w') :=
 PE xs ys (λx hx y=>Qa x y (by have:=Vl.sumC_mem Vl.ZA.cost 2 hx;unfold Dq.argsC at hc;omega)) a b c d w P hlx hrx hry
def ElD (x y:Dq.Dir):Prop:=∀(a1 b1:Option Addr) (c1 d1:Nat) (w:World) (P:Nat→Prop),Reads w P x.d [.string ⟨x.name.toArray⟩,.slice a1 x.args.length c1,.int .i64 x.at_]→Reads w P y.d [.string ⟨y.name.toArray⟩,.slice b1 y.args.length d1,.int .i64 y.at_] →
 Calls Tryz.prog 123 #[.agg #[.string ⟨x.name.toArray⟩,.slice a1 x.args.length c1,.int .i64 x.at_],.agg #[.string ⟨y.name.toArray⟩,.slice b1 y.args.length d1,.int .i64 y.at_]] w (λr w'=>r=.returned (.bool (Dq.Dir.same x y))∧Below w.heap.size w w')
theorem Px (xs ys:List Dq.Dir) (IH:∀x∈xs,∀y,ElD x y) (a b:Option Addr) (c d:Nat) (w:World) (P:Nat→Prop) (hlx:xs.length≤9223372036854775807)
  (hrx:Reads w P (.seq 3 (xs.map Dq.Dir.d)) [.slice a xs.length c]) (hry:Reads w P (.seq 3 (ys.map Dq.Dir.d)) [.slice b ys.length d]) :
  Calls Tryz.prog 122 #[.slice a xs.length c,.slice b ys.length d,.func (.func 123) #[] #[]] w (λr w'=>r=.returned (.bool (Dq.sameL Dq.Dir.same xs ys))∧Below w.heap.size w w'):=by
 have aa:=QA hrx;have ab:=QA hry;have ad:=QA IH;clear hrx hry IH;by_cases C:xs.length=ys.length;rotate_left
 ·have e0:((xs.length:Int) != (ys.length:Int))=true:=neT (by omega);have HS:Hid (Dq.sameL Dq.Dir.same xs ys=false):=QA (Dq.sameL_ne C);go_enter Tryz.func122,Tryz.ntmps122;go_wp2_with fail;go_ret;exact⟨by rw[HS.out];rfl,Below.refl _ _⟩
 have e0:((xs.length:Int) != (ys.length:Int))=false:=neF (by omega);obtain⟨S,hS⟩:∃S,S=Dq.sameL Dq.Dir.same xs ys:=⟨_,rfl⟩
 have HS:=QA hS;rw[← hS];clear hS;have L:=QA C;clear C;go_enter Tryz.func122,Tryz.ntmps122;go_wp2_with fail
 go_loopg [17] (xs.length+1) (λk i wr=>∃(j:Nat),k=xs.length+1-j∧j≤xs.length∧i=.int .i64 j∧S=Dq.sameL Dq.Dir.same (xs.drop j) (ys.drop j)∧Below w.heap.size w wr)
 case atStart=>exact⟨0,rfl,ZX _,rfl,HS.out,Below.refl _ _⟩
 case round =>
  obtain⟨j,hk,hj,rfl,hs,V⟩:=hrel;have HK:=QA hk;have O:=QA hs;have E:=QA V;clear hk hs V;by_cases hjl:j<xs.length
  ·have e1:decide (j<xs.length)=true:=decide_eq_true hjl;have U:j<ys.length:=by have:=L.out;omega
   have e2:decide (j<ys.length)=true:=decide_eq_true U;obtain⟨x,Y⟩:∃z,xs[j]?=some z:=⟨xs[j],ZL hjl⟩
   obtain⟨y,hy⟩:∃z,ys[j]?=some z:=⟨ys[j],ZL U⟩
   have K:Hid (S=(Dq.Dir.same x y&&Dq.sameL Dq.Dir.same (xs.drop (j+1)) (ys.drop (j+1)))):=by have:=O.out;rw[Dq.drop_at Y,Dq.drop_at hy,Dq.sameL]at this;exact QA this
   have ac:=QA (ad.out x (ZE Y) y);obtain⟨g,o,cs,ha,-,Q,C,B,hd⟩:=aa.out.el j x.d (by rw[ZK,Y];rfl);obtain⟨R,T,aB,hb,-,G,M,A,N⟩:=ab.out.el j y.d (by rw[ZK,hy];rfl);obtain⟨a1,u1,rfl,-⟩:=Dq.Dir.opened hd;obtain⟨b1,v1,rfl,-⟩:=Dq.Dir.opened N;have k0:wr.cell? ⟨g,o+j*3,none⟩=_:=(E.out.cell (p:=⟨g,o+j*3,none⟩) Q).trans (B 0 _ rfl);have k1:wr.cell? ⟨g,o+j*3+1,none⟩=_:=(E.out.cell (p:=⟨g,o+j*3+1,none⟩) Q).trans (B 1 _ rfl);have k2:wr.cell? ⟨g,o+j*3+2,none⟩=_:=(E.out.cell (p:=⟨g,o+j*3+2,none⟩) Q).trans (B 2 _ rfl);obtain⟨Z,H⟩:∃z,z=wr.alloc (.cells #[.string ⟨x.name.toArray⟩,.slice a1 x.args.length u1,.int .i64 x.at_] 171):=⟨_,rfl⟩
   have F:Below w.heap.size w Z:=by rw[H];exact E.out.alloc E.out.size _
   have m0:Z.cell? ⟨R,T+j*3,none⟩=_:=(F.cell (p:=⟨R,T+j*3,none⟩) G).trans (A 0 _ rfl);have m1:Z.cell? ⟨R,T+j*3+1,none⟩=_:=(F.cell (p:=⟨R,T+j*3+1,none⟩) G).trans (A 1 _ rfl);have m2:Z.cell? ⟨R,T+j*3+2,none⟩=_:=(F.cell (p:=⟨R,T+j*3+2,none⟩) G).trans (A 2 _ rfl);rw[H]at m0 m1 m2;subst ha;subst hb;obtain⟨wc,I⟩:∃z,z=(wr.alloc (.cells #[.string ⟨x.name.toArray⟩,.slice a1 x.args.length u1,.int .i64 x.at_] 171)).alloc (.cells #[.string ⟨y.name.toArray⟩,.slice b1 y.args.length v1,.int .i64 y.at_] 171):=⟨_,rfl⟩
   have J:Below w.heap.size w wc:=by rw[I,← H];exact F.alloc F.size _
   have X:=QA J;have D:=QA (ac.out a1 b1 u1 v1 wc P (hd.to (AE.below J)) (N.to (AE.below J)));rw[I]at D;have aj:=QA I;clear Y hy C M B A hd N F J H I O;go_wp2_with fail;refine D.out.mono ?_;rintro r w2 ⟨rfl,hb2⟩;rw[← aj.out]at hb2;have W:=QA (X.out.trans (hb2.mono X.out.size));clear hb2 k0 k1 k2 m0 m1 m2 D;obtain⟨q,hq⟩:∃q,q=Dq.Dir.same x y:=⟨_,rfl⟩
   rw[← hq];have HQ:=QA hq;clear hq;cases q
   ·go_wp2_with fail;go_ret;exact⟨by rw[K.out,← HQ.out];rfl,W.out⟩
   ·go_wp2_with fail;go_roundg (xs.length+1-(j+1))
    case measure=>rw[HK.out];omega
    case rel=>exact⟨j+1,rfl,hjl,by go_num,by rw[K.out,← HQ.out];rfl,W.out⟩
  ·have e1:decide (j<xs.length)=false:=decide_eq_false hjl;have K:Hid (S=true):=by
    have:=O.out;rw[ZH (by omega),ZH (by have:=L.out;omega),Dq.sameL]at this;exact QA this
   go_wp2_with fail;go_ret;exact⟨by rw[K.out];rfl,E.out⟩
theorem Qd (x y:Dq.Dir) (hc:Dq.dirC x≤1000000000):ElD x y:=by
 intro a1 b1 c1 d1 w P hx hy;have K:=hx;have H:=hy;obtain⟨I,f1,ex,A⟩:=Dq.Dir.opened hx;obtain⟨rfl,rfl⟩:a1=I∧c1=f1:=by simpa [and_assoc] using ex
 clear ex;obtain⟨I,f1,ex,B⟩:=Dq.Dir.opened hy;obtain⟨rfl,rfl⟩:b1=I∧d1=f1:=by simpa [and_assoc] using ex
 clear ex;have U:Dq.dirC x=2+x.name.length+Dq.argsC x.args:=rfl;have X:=Dq.argsC_ln x.args;obtain⟨D,o⟩:∃z,z=(w.alloc (.cells #[.string ⟨x.name.toArray⟩,.slice a1 x.args.length c1,.int .i64 x.at_] 171)).alloc (.cells #[.string ⟨y.name.toArray⟩,.slice b1 y.args.length d1,.int .i64 y.at_] 171):=⟨_,rfl⟩
 have G:Below w.heap.size w D:=by rw[o];exact ((Below.refl _ _).alloc (QM _) _).alloc (by simp) _
 have M:Hid (D.heap[w.heap.size]?=some (.cells #[.string ⟨x.name.toArray⟩,.slice a1 x.args.length c1,.int .i64 x.at_] 171 (0,0))):=by rw[o];exact QA (by rw[Lib.alloc_old _ _ _ (by simp)];exact AC _ _)
 have N:Hid (D.heap[w.heap.size+1]?=some (.cells #[.string ⟨y.name.toArray⟩,.slice b1 y.args.length d1,.int .i64 y.at_] 171 (0,0))):=by
  rw[o];have:=AC (w.alloc (.cells #[.string ⟨x.name.toArray⟩,.slice a1 x.args.length c1,.int .i64 x.at_] 171)) (.cells #[.string ⟨y.name.toArray⟩,.slice b1 y.args.length d1,.int .i64 y.at_] 171);rw[show (w.alloc (.cells #[.string ⟨x.name.toArray⟩,.slice a1 x.args.length c1,.int .i64 x.at_] 171)).heap.size=w.heap.size+1 by simp]at this;exact QA this
 have V:D.heap.size=w.heap.size+2:=by rw[o];simp
 have E:=QA G;have F:=QA o;have C:Hid (Dq.Dir.same x y=(decide (x.name=y.name)&&(Dq.sameL Vl.ZA.same x.args y.args))):=QA (rfl);obtain⟨S,Q⟩:∃S,S=Dq.Dir.same x y:=⟨_,rfl⟩
 rw[← Q]at C ⊢;clear hx hy K H G o Q;obtain⟨R,J⟩:∃q,(x.name==y.name)=q:=⟨_,rfl⟩
 have O:Hid (decide (x.name=y.name)=R):=QA (by rw[← J];by_cases h:x.name=y.name<;>simp[h]);cases R
 ·go_enter Tryz.func123,Tryz.ntmps123;go_wp2_with fail;go_ret;exact⟨by rw[C.out,O.out];rfl,by rw[← F.out];exact E.out⟩
 go_enter Tryz.func123,Tryz.ntmps123;go_wp2_with fail;rw[← F.out];refine (GW x.args y.args (by omega) a1 b1 c1 d1 D P (by omega) (A.to (AE.below E.out)) (B.to (AE.below E.out))).mono ?_;rintro r w1 ⟨rfl,hb⟩;have W:=QA (E.out.trans (hb.mono E.out.size));have X1:Hid (w1.heap[w.heap.size]?=_):=QA ((hb.block _ (block_lt M.out)).trans M.out);have Z:Hid (w1.heap[w.heap.size+1]?=_):=QA ((hb.block _ (block_lt N.out)).trans N.out);clear hb;obtain⟨Y,L⟩:∃q,q=Dq.sameL Vl.ZA.same x.args y.args:=⟨_,rfl⟩
 rw[← L];have T:=QA L.symm;clear L;go_wp2_with fail;go_ret;exact⟨by rw[C.out,O.out,T.out];rfl,W.out⟩
theorem PV (xs ys:List Dq.Dir) (IH:∀x∈xs,∀y,ElD x y) (a b:Option Addr) (c d:Nat) (w:World) (P:Nat→Prop) (hlx:xs.length≤1000000000)
  (hrx:Reads w P (.seq 3 (xs.map Dq.Dir.d)) [.slice a xs.length c]) (hry:Reads w P (.seq 3 (ys.map Dq.Dir.d)) [.slice b ys.length d]) :
  Calls Tryz.prog 59 #[.slice a xs.length c,.slice b ys.length d] w (λr w'=>r=.returned (.bool (Dq.sameL Dq.Dir.same xs ys))∧Below w.heap.size w w'):=by
 have o:=QA (Px xs ys IH a b c d w P (by omega) hrx hry);clear hrx hry IH;go_enter Tryz.func59,Tryz.ntmps59;go_wp2_with fail;refine o.out.mono ?_;rintro r w2 ⟨rfl,hb2⟩;go_wp2_with fail;go_ret;exact⟨rfl,hb2⟩
theorem D6 (xs ys:List Dq.Dir) (hc:Dq.dirsC xs≤1000000000) (a b:Option Addr) (c d:Nat) (w:World) (P:Nat→Prop) (hlx:xs.length≤1000000000)
  (hrx:Reads w P (.seq 3 (xs.map Dq.Dir.d)) [.slice a xs.length c]) (hry:Reads w P (.seq 3 (ys.map Dq.Dir.d)) [.slice b ys.length d]) :
  Calls Tryz.prog 59 #[.slice a xs.length c,.slice b ys.length d] w (λr w'=>r=.returned (.bool (Dq.sameL Dq.Dir.same xs ys))∧Below w.heap.size w w') :=
 PV xs ys (λx hx y=>Qd x y (by have:=Vl.sumC_mem Dq.dirC 0 hx;unfold Dq.dirsC at hc;omega)) a b c d w P hlx hrx hry
def ElS (x y:Dq.Sel):Prop:=∀(a1 a2 a3 b1 b2 b3:Option Addr) (c1 c2 c3 d1 d2 d3:Nat) (w:World) (P:Nat→Prop),Reads w P x.d [.int .i64 x.kind,.string ⟨x.nick.toArray⟩,.string ⟨x.name.toArray⟩,.slice a1 x.args.length c1,.slice a2 x.dirs.length c2,.slice a3 x.sels.length c3,.int .i64 x.at_]→Reads w P y.d [.int .i64 y.kind,.string ⟨y.nick.toArray⟩,.string ⟨y.name.toArray⟩,.slice b1 y.args.length d1,.slice b2 y.dirs.length d2,.slice b3 y.sels.length d3,.int .i64 y.at_] →
 Calls Tryz.prog 126 #[.agg #[.int .i64 x.kind,.string ⟨x.nick.toArray⟩,.string ⟨x.name.toArray⟩,.slice a1 x.args.length c1,.slice a2 x.dirs.length c2,.slice a3 x.sels.length c3,.int .i64 x.at_],.agg #[.int .i64 y.kind,.string ⟨y.nick.toArray⟩,.string ⟨y.name.toArray⟩,.slice b1 y.args.length d1,.slice b2 y.dirs.length d2,.slice b3 y.sels.length d3,.int .i64 y.at_]] w (λr w'=>r=.returned (.bool (Dq.Sel.same x y))∧Below w.heap.size w w')
theorem P8 (xs ys:List Dq.Sel) (IH:∀x∈xs,∀y,ElS x y) (a b:Option Addr) (c d:Nat) (w:World) (P:Nat→Prop) (hlx:xs.length≤9223372036854775807)
  (hrx:Reads w P (.seq 7 (xs.map Dq.Sel.d)) [.slice a xs.length c]) (hry:Reads w P (.seq 7 (ys.map Dq.Sel.d)) [.slice b ys.length d]) :
  Calls Tryz.prog 125 #[.slice a xs.length c,.slice b ys.length d,.func (.func 126) #[] #[]] w (λr w'=>r=.returned (.bool (Dq.sameL Dq.Sel.same xs ys))∧Below w.heap.size w w'):=by
 have aa:=QA hrx;have af:=QA hry;have ac:=QA IH;clear hrx hry IH;by_cases F:xs.length=ys.length;rotate_left
 ·have e0:((xs.length:Int) != (ys.length:Int))=true:=neT (by omega);have HS:Hid (Dq.sameL Dq.Sel.same xs ys=false):=QA (Dq.sameL_ne F);go_enter Tryz.func125,Tryz.ntmps125;go_wp2_with fail;go_ret;exact⟨by rw[HS.out];rfl,Below.refl _ _⟩
 have e0:((xs.length:Int) != (ys.length:Int))=false:=neF (by omega);obtain⟨S,hS⟩:∃S,S=Dq.sameL Dq.Sel.same xs ys:=⟨_,rfl⟩
 have HS:=QA hS;rw[← hS];clear hS;have O:=QA F;clear F;go_enter Tryz.func125,Tryz.ntmps125;go_wp2_with fail
 go_loopg [17] (xs.length+1) (λk i wr=>∃(j:Nat),k=xs.length+1-j∧j≤xs.length∧i=.int .i64 j∧S=Dq.sameL Dq.Sel.same (xs.drop j) (ys.drop j)∧Below w.heap.size w wr)
 case atStart=>exact⟨0,rfl,ZX _,rfl,HS.out,Below.refl _ _⟩
 case round =>
  obtain⟨j,hk,hj,rfl,hs,Y⟩:=hrel;have HK:=QA hk;have U:=QA hs;have E:=QA Y;clear hk hs Y;by_cases hjl:j<xs.length
  ·have e1:decide (j<xs.length)=true:=decide_eq_true hjl;have V:j<ys.length:=by have:=O.out;omega
   have e2:decide (j<ys.length)=true:=decide_eq_true V;obtain⟨x,Z⟩:∃z,xs[j]?=some z:=⟨xs[j],ZL hjl⟩
   obtain⟨y,hy⟩:∃z,ys[j]?=some z:=⟨ys[j],ZL V⟩
   have N:Hid (S=(Dq.Sel.same x y&&Dq.sameL Dq.Sel.same (xs.drop (j+1)) (ys.drop (j+1)))):=by have:=U.out;rw[Dq.drop_at Z,Dq.drop_at hy,Dq.sameL]at this;exact QA this
   have ao:=QA (ac.out x (ZE Z) y);obtain⟨g,o,cs,ha,-,G,F,B,hd⟩:=aa.out.el j x.d (by rw[ZK,Z];rfl);obtain⟨J,I,aP,hb,-,C,T,A,R⟩:=af.out.el j y.d (by rw[ZK,hy];rfl);obtain⟨a1,a2,a3,u1,u2,u3,rfl,-⟩:=Dq.Sel.opened hd;obtain⟨b1,b2,b3,v1,v2,v3,rfl,-⟩:=Dq.Sel.opened R;have k0:wr.cell? ⟨g,o+j*7,none⟩=_:=(E.out.cell (p:=⟨g,o+j*7,none⟩) G).trans (B 0 _ rfl);have k1:wr.cell? ⟨g,o+j*7+1,none⟩=_:=(E.out.cell (p:=⟨g,o+j*7+1,none⟩) G).trans (B 1 _ rfl);have k2:wr.cell? ⟨g,o+j*7+2,none⟩=_:=(E.out.cell (p:=⟨g,o+j*7+2,none⟩) G).trans (B 2 _ rfl);have k3:wr.cell? ⟨g,o+j*7+3,none⟩=_:=(E.out.cell (p:=⟨g,o+j*7+3,none⟩) G).trans (B 3 _ rfl);have k4:wr.cell? ⟨g,o+j*7+4,none⟩=_:=(E.out.cell (p:=⟨g,o+j*7+4,none⟩) G).trans (B 4 _ rfl);have k5:wr.cell? ⟨g,o+j*7+5,none⟩=_:=(E.out.cell (p:=⟨g,o+j*7+5,none⟩) G).trans (B 5 _ rfl);have k6:wr.cell? ⟨g,o+j*7+6,none⟩=_:=(E.out.cell (p:=⟨g,o+j*7+6,none⟩) G).trans (B 6 _ rfl);obtain⟨Q,K⟩:∃z,z=wr.alloc (.cells #[.int .i64 x.kind,.string ⟨x.nick.toArray⟩,.string ⟨x.name.toArray⟩,.slice a1 x.args.length u1,.slice a2 x.dirs.length u2,.slice a3 x.sels.length u3,.int .i64 x.at_] 174):=⟨_,rfl⟩
   have D:Below w.heap.size w Q:=by rw[K];exact E.out.alloc E.out.size _
   have m0:Q.cell? ⟨J,I+j*7,none⟩=_:=(D.cell (p:=⟨J,I+j*7,none⟩) C).trans (A 0 _ rfl);have m1:Q.cell? ⟨J,I+j*7+1,none⟩=_:=(D.cell (p:=⟨J,I+j*7+1,none⟩) C).trans (A 1 _ rfl);have m2:Q.cell? ⟨J,I+j*7+2,none⟩=_:=(D.cell (p:=⟨J,I+j*7+2,none⟩) C).trans (A 2 _ rfl);have m3:Q.cell? ⟨J,I+j*7+3,none⟩=_:=(D.cell (p:=⟨J,I+j*7+3,none⟩) C).trans (A 3 _ rfl);have m4:Q.cell? ⟨J,I+j*7+4,none⟩=_:=(D.cell (p:=⟨J,I+j*7+4,none⟩) C).trans (A 4 _ rfl);have m5:Q.cell? ⟨J,I+j*7+5,none⟩=_:=(D.cell (p:=⟨J,I+j*7+5,none⟩) C).trans (A 5 _ rfl);have m6:Q.cell? ⟨J,I+j*7+6,none⟩=_:=(D.cell (p:=⟨J,I+j*7+6,none⟩) C).trans (A 6 _ rfl);rw[K]at m0 m1 m2 m3 m4 m5 m6;subst ha;subst hb;obtain⟨wc,M⟩:∃z,z=(wr.alloc (.cells #[.int .i64 x.kind,.string ⟨x.nick.toArray⟩,.string ⟨x.name.toArray⟩,.slice a1 x.args.length u1,.slice a2 x.dirs.length u2,.slice a3 x.sels.length u3,.int .i64 x.at_] 174)).alloc (.cells #[.int .i64 y.kind,.string ⟨y.nick.toArray⟩,.string ⟨y.name.toArray⟩,.slice b1 y.args.length v1,.slice b2 y.dirs.length v2,.slice b3 y.sels.length v3,.int .i64 y.at_] 174):=⟨_,rfl⟩
   have L:Below w.heap.size w wc:=by rw[M,← K];exact D.alloc D.size _
   have X:=QA L;have H:=QA (ao.out a1 a2 a3 b1 b2 b3 u1 u2 u3 v1 v2 v3 wc P (hd.to (AE.below L)) (R.to (AE.below L)));rw[M]at H;have ap:=QA M;clear Z hy F T B A hd R D L K M U;go_wp2_with fail;refine H.out.mono ?_;rintro r w2 ⟨rfl,hb2⟩;rw[← ap.out]at hb2;have W:=QA (X.out.trans (hb2.mono X.out.size));clear hb2 k0 k1 k2 k3 k4 k5 k6 m0 m1 m2 m3 m4 m5 m6 H;obtain⟨q,hq⟩:∃q,q=Dq.Sel.same x y:=⟨_,rfl⟩
   rw[← hq];have HQ:=QA hq;clear hq;cases q
   ·go_wp2_with fail;go_ret;exact⟨by rw[N.out,← HQ.out];rfl,W.out⟩
   ·go_wp2_with fail;go_roundg (xs.length+1-(j+1))
    case measure=>rw[HK.out];omega
    case rel=>exact⟨j+1,rfl,hjl,by go_num,by rw[N.out,← HQ.out];rfl,W.out⟩
  ·have e1:decide (j<xs.length)=false:=decide_eq_false hjl;have N:Hid (S=true):=by
    have:=U.out;rw[ZH (by omega),ZH (by have:=O.out;omega),Dq.sameL]at this;exact QA this
   go_wp2_with fail;go_ret;exact⟨by rw[N.out];rfl,E.out⟩
theorem MI (xs ys:List Dq.Sel) (IH:∀x∈xs,∀y,ElS x y) (a b:Option Addr) (c d:Nat) (w:World) (P:Nat→Prop) (hlx:xs.length≤1000000000)
  (hrx:Reads w P (.seq 7 (xs.map Dq.Sel.d)) [.slice a xs.length c]) (hry:Reads w P (.seq 7 (ys.map Dq.Sel.d)) [.slice b ys.length d]) :
  Calls Tryz.prog 60 #[.slice a xs.length c,.slice b ys.length d] w (λr w'=>r=.returned (.bool (Dq.sameL Dq.Sel.same xs ys))∧Below w.heap.size w w'):=by
 have o:=QA (P8 xs ys IH a b c d w P (by omega) hrx hry);clear hrx hry IH;go_enter Tryz.func60,Tryz.ntmps60;go_wp2_with fail;refine o.out.mono ?_;rintro r w2 ⟨rfl,hb2⟩;go_wp2_with fail;go_ret;exact⟨rfl,hb2⟩
theorem Qi (x y:Dq.Sel) (hc:x.cost≤1000000000) (IH:∀z∈x.sels,∀y,ElS z y):ElS x y:=by
 intro a1 a2 a3 b1 b2 b3 c1 c2 c3 d1 d2 d3 w P hx hy;have aH:=hx;have ay:=hy;obtain⟨e1,e2,e3,f1,f2,f3,ex,E,C,I⟩:=Dq.Sel.opened hx;obtain⟨rfl,rfl,rfl,rfl,rfl,rfl⟩:a1=e1∧c1=f1∧a2=e2∧c2=f2∧a3=e3∧c3=f3:=by simpa [and_assoc] using ex
 clear ex;obtain⟨e1,e2,e3,f1,f2,f3,ex,F,D,G⟩:=Dq.Sel.opened hy;obtain⟨rfl,rfl,rfl,rfl,rfl,rfl⟩:b1=e1∧d1=f1∧b2=e2∧d2=f2∧b3=e3∧d3=f3:=by simpa [and_assoc] using ex
 clear ex;have aW:=Dq.Sel.cost_eq x;have aX:=Dq.argsC_ln x.args;have aU:=Dq.dirsC_ln x.dirs;have aV:=Dq.selsC_ln x.sels;have ax:=QA IH;clear IH;obtain⟨w0,A⟩:∃z,z=(w.alloc (.cells #[.int .i64 x.kind,.string ⟨x.nick.toArray⟩,.string ⟨x.name.toArray⟩,.slice a1 x.args.length c1,.slice a2 x.dirs.length c2,.slice a3 x.sels.length c3,.int .i64 x.at_] 174)).alloc (.cells #[.int .i64 y.kind,.string ⟨y.nick.toArray⟩,.string ⟨y.name.toArray⟩,.slice b1 y.args.length d1,.slice b2 y.dirs.length d2,.slice b3 y.sels.length d3,.int .i64 y.at_] 174):=⟨_,rfl⟩
 have ag:Below w.heap.size w w0:=by rw[A];exact ((Below.refl _ _).alloc (QM _) _).alloc (by simp) _
 have X0:Hid (w0.heap[w.heap.size]?=some (.cells #[.int .i64 x.kind,.string ⟨x.nick.toArray⟩,.string ⟨x.name.toArray⟩,.slice a1 x.args.length c1,.slice a2 x.dirs.length c2,.slice a3 x.sels.length c3,.int .i64 x.at_] 174 (0,0))):=by rw[A];exact QA (by rw[Lib.alloc_old _ _ _ (by simp)];exact AC _ _)
 have Y0:Hid (w0.heap[w.heap.size+1]?=some (.cells #[.int .i64 y.kind,.string ⟨y.nick.toArray⟩,.string ⟨y.name.toArray⟩,.slice b1 y.args.length d1,.slice b2 y.dirs.length d2,.slice b3 y.sels.length d3,.int .i64 y.at_] 174 (0,0))):=by
  rw[A];have:=AC (w.alloc (.cells #[.int .i64 x.kind,.string ⟨x.nick.toArray⟩,.string ⟨x.name.toArray⟩,.slice a1 x.args.length c1,.slice a2 x.dirs.length c2,.slice a3 x.sels.length c3,.int .i64 x.at_] 174)) (.cells #[.int .i64 y.kind,.string ⟨y.nick.toArray⟩,.string ⟨y.name.toArray⟩,.slice b1 y.args.length d1,.slice b2 y.dirs.length d2,.slice b3 y.sels.length d3,.int .i64 y.at_] 174);rw[show (w.alloc (.cells #[.int .i64 x.kind,.string ⟨x.nick.toArray⟩,.string ⟨x.name.toArray⟩,.slice a1 x.args.length c1,.slice a2 x.dirs.length c2,.slice a3 x.sels.length c3,.int .i64 x.at_] 174)).heap.size=w.heap.size+1 by simp]at this;exact QA this
 have aY:w0.heap.size=w.heap.size+2:=by rw[A];simp
 have J:=QA ag;have H:=QA A;have o:Hid (Dq.Sel.same x y=(decide (x.kind=y.kind)&&(decide (x.nick=y.nick)&&(decide (x.name=y.name)&&(Dq.sameL Vl.ZA.same x.args y.args&&(Dq.sameL Dq.Dir.same x.dirs y.dirs&&(Dq.sameL Dq.Sel.same x.sels y.sels))))))):=QA (Dq.Sel.same_eq x y);obtain⟨S,hS⟩:∃S,S=Dq.Sel.same x y:=⟨_,rfl⟩
 rw[← hS]at o ⊢;clear hx hy aH ay ag A hS;obtain⟨q0,aA⟩:∃q,(x.kind==y.kind)=q:=⟨_,rfl⟩
 have K:Hid (decide (x.kind=y.kind)=q0):=QA (by rw[← aA];by_cases h:x.kind=y.kind<;>simp[h]);obtain⟨q1,aL⟩:∃q,(x.nick==y.nick)=q:=⟨_,rfl⟩
 have V:Hid (decide (x.nick=y.nick)=q1):=QA (by rw[← aL];by_cases h:x.nick=y.nick<;>simp[h]);obtain⟨q2,aF⟩:∃q,(x.name==y.name)=q:=⟨_,rfl⟩
 have Q2:Hid (decide (x.name=y.name)=q2):=QA (by rw[← aF];by_cases h:x.name=y.name<;>simp[h]);cases q0
 ·go_enter Tryz.func126,Tryz.ntmps126;go_wp2_with fail;go_ret;exact⟨by rw[o.out,K.out];rfl,by rw[← H.out];exact J.out⟩
 cases q1
 ·go_enter Tryz.func126,Tryz.ntmps126;go_wp2_with fail;go_ret;exact⟨by rw[o.out,K.out,V.out];rfl,by rw[← H.out];exact J.out⟩
 cases q2
 ·go_enter Tryz.func126,Tryz.ntmps126;go_wp2_with fail;go_ret;exact⟨by rw[o.out,K.out,V.out,Q2.out];rfl,by rw[← H.out];exact J.out⟩
 go_enter Tryz.func126,Tryz.ntmps126;go_wp2_with fail;rw[← H.out];refine (GW x.args y.args (by omega) a1 b1 c1 d1 w0 P (by omega) (E.to (AE.below J.out)) (F.to (AE.below J.out))).mono ?_;rintro r w1 ⟨rfl,hb⟩;have B1:=QA (J.out.trans (hb.mono J.out.size));have X1:Hid (w1.heap[w.heap.size]?=_):=QA ((hb.block _ (block_lt X0.out)).trans X0.out);have Y1:Hid (w1.heap[w.heap.size+1]?=_):=QA ((hb.block _ (block_lt Y0.out)).trans Y0.out);clear hb;obtain⟨r1,B⟩:∃q,q=Dq.sameL Vl.ZA.same x.args y.args:=⟨_,rfl⟩
 rw[← B];have R1:=QA B.symm;clear B;cases r1
 ·go_wp2_with fail;go_ret;exact⟨by rw[o.out,K.out,V.out,Q2.out,R1.out];rfl,B1.out⟩
 obtain⟨ab,ak,R,L,ah,an,W⟩:=BW X1.out rfl rfl rfl rfl rfl rfl rfl;obtain⟨ad,ai,au,M,aq,X,af⟩:=BW Y1.out rfl rfl rfl rfl rfl rfl rfl;go_wp2_with fail;refine (D6 x.dirs y.dirs (by omega) a2 b2 c2 d2 w1 P (by omega) (C.to (AE.below B1.out)) (D.to (AE.below B1.out))).mono ?_;rintro r w2 ⟨rfl,hb⟩;have T:=QA (B1.out.trans (hb.mono B1.out.size));have X2:Hid (w2.heap[w.heap.size]?=_):=QA ((hb.block _ (block_lt X1.out)).trans X1.out);have Y2:Hid (w2.heap[w.heap.size+1]?=_):=QA ((hb.block _ (block_lt Y1.out)).trans Y1.out);clear ab ak R L ah an W ad ai au M aq X af;clear hb;obtain⟨r2,B⟩:∃q,q=Dq.sameL Dq.Dir.same x.dirs y.dirs:=⟨_,rfl⟩
 rw[← B];have R2:=QA B.symm;clear B;cases r2
 ·go_wp2_with fail;go_ret;exact⟨by rw[o.out,K.out,V.out,Q2.out,R1.out,R2.out];rfl,T.out⟩
 obtain⟨al,aa,av,am,U,ao,ac⟩:=BW X2.out rfl rfl rfl rfl rfl rfl rfl;obtain⟨N,ar,ap,Y,O,Q,Z⟩:=BW Y2.out rfl rfl rfl rfl rfl rfl rfl;go_wp2_with fail;refine (MI x.sels y.sels ax.out a3 b3 c3 d3 w2 P (by omega) (I.to (AE.below T.out)) (G.to (AE.below T.out))).mono ?_;rintro r w3 ⟨rfl,hb⟩;have B3:=QA (T.out.trans (hb.mono T.out.size));have X3:Hid (w3.heap[w.heap.size]?=_):=QA ((hb.block _ (block_lt X2.out)).trans X2.out);have Y3:Hid (w3.heap[w.heap.size+1]?=_):=QA ((hb.block _ (block_lt Y2.out)).trans Y2.out);clear al aa av am U ao ac N ar ap Y O Q Z;clear hb;obtain⟨r3,B⟩:∃q,q=Dq.sameL Dq.Sel.same x.sels y.sels:=⟨_,rfl⟩
 rw[← B];have R3:=QA B.symm;clear B;go_wp2_with fail;go_ret;exact⟨by rw[o.out,K.out,V.out,Q2.out,R1.out,R2.out,R3.out];rfl,B3.out⟩
theorem Hg:∀(N:Nat),N≤1000000000→∀(x y:Dq.Sel),x.cost≤N→ElS x y
 | 0,_,x,y,h=>by have:=Dq.Sel.cost_eq x;omega
 | N+1,hN,x,y,h=>Qi x y (by omega) (λz hz y=>Hg N (by omega) z y (by have:=Dq.Sel.cost_eq x;have o:=Dq.Sel.costs_sum x.sels;have:=Vl.sumC_mem Dq.Sel.cost 1 hz;omega))
theorem Fi (xs ys:List Dq.Sel) (hc:Dq.Sel.costs xs≤1000000000) (a b:Option Addr) (c d:Nat) (w:World) (P:Nat→Prop) (hlx:xs.length≤1000000000)
  (hrx:Reads w P (.seq 7 (xs.map Dq.Sel.d)) [.slice a xs.length c]) (hry:Reads w P (.seq 7 (ys.map Dq.Sel.d)) [.slice b ys.length d]) :
  Calls Tryz.prog 60 #[.slice a xs.length c,.slice b ys.length d] w (λr w'=>r=.returned (.bool (Dq.sameL Dq.Sel.same xs ys))∧Below w.heap.size w w') :=
 MI xs ys (λx hx y=>Hg 1000000000 (QM _) x y (by have o:=Dq.Sel.costs_sum xs;have:=Vl.sumC_mem Dq.Sel.cost 1 hx;omega)) a b c d w P hlx hrx hry
def ElV (x y:Dq.Var):Prop:=∀(a1 a2 b1 b2:Option Addr) (c1 c2 d1 d2:Nat) (w:World) (P:Nat→Prop),Reads w P x.d [.string ⟨x.name.toArray⟩,.string ⟨x.type.toArray⟩,.bool x.has,.int .i64 x.dflt.kind,.string ⟨x.dflt.text.toArray⟩,.slice a1 x.dflt.items.length c1,.slice a2 x.dflt.fields.length c2,.int .i64 x.dflt.at_,.int .i64 x.at_]→Reads w P y.d [.string ⟨y.name.toArray⟩,.string ⟨y.type.toArray⟩,.bool y.has,.int .i64 y.dflt.kind,.string ⟨y.dflt.text.toArray⟩,.slice b1 y.dflt.items.length d1,.slice b2 y.dflt.fields.length d2,.int .i64 y.dflt.at_,.int .i64 y.at_] →
 Calls Tryz.prog 62 #[.agg #[.string ⟨x.name.toArray⟩,.string ⟨x.type.toArray⟩,.bool x.has,.int .i64 x.dflt.kind,.string ⟨x.dflt.text.toArray⟩,.slice a1 x.dflt.items.length c1,.slice a2 x.dflt.fields.length c2,.int .i64 x.dflt.at_,.int .i64 x.at_],.agg #[.string ⟨y.name.toArray⟩,.string ⟨y.type.toArray⟩,.bool y.has,.int .i64 y.dflt.kind,.string ⟨y.dflt.text.toArray⟩,.slice b1 y.dflt.items.length d1,.slice b2 y.dflt.fields.length d2,.int .i64 y.dflt.at_,.int .i64 y.at_]] w (λr w'=>r=.returned (.bool (Dq.Var.same x y))∧Below w.heap.size w w')
theorem Pj (xs ys:List Dq.Var) (IH:∀x∈xs,∀y,ElV x y) (a b:Option Addr) (c d:Nat) (w:World) (P:Nat→Prop) (hlx:xs.length≤9223372036854775807)
  (hrx:Reads w P (.seq 9 (xs.map Dq.Var.d)) [.slice a xs.length c]) (hry:Reads w P (.seq 9 (ys.map Dq.Var.d)) [.slice b ys.length d]) :
  Calls Tryz.prog 61 #[.slice a xs.length c,.slice b ys.length d,.func (.func 62) #[] #[]] w (λr w'=>r=.returned (.bool (Dq.sameL Dq.Var.same xs ys))∧Below w.heap.size w w'):=by
 have aa:=QA hrx;have ad:=QA hry;have ac:=QA IH;clear hrx hry IH;by_cases I:xs.length=ys.length;rotate_left
 ·have e0:((xs.length:Int) != (ys.length:Int))=true:=neT (by omega);have HS:Hid (Dq.sameL Dq.Var.same xs ys=false):=QA (Dq.sameL_ne I);go_enter Tryz.func61,Tryz.ntmps61;go_wp2_with fail;go_ret;exact⟨by rw[HS.out];rfl,Below.refl _ _⟩
 have e0:((xs.length:Int) != (ys.length:Int))=false:=neF (by omega);obtain⟨S,hS⟩:∃S,S=Dq.sameL Dq.Var.same xs ys:=⟨_,rfl⟩
 have HS:=QA hS;rw[← hS];clear hS;have Q:=QA I;clear I;go_enter Tryz.func61,Tryz.ntmps61;go_wp2_with fail
 go_loopg [17] (xs.length+1) (λk i wr=>∃(j:Nat),k=xs.length+1-j∧j≤xs.length∧i=.int .i64 j∧S=Dq.sameL Dq.Var.same (xs.drop j) (ys.drop j)∧Below w.heap.size w wr)
 case atStart=>exact⟨0,rfl,ZX _,rfl,HS.out,Below.refl _ _⟩
 case round =>
  obtain⟨j,hk,hj,rfl,hs,Y⟩:=hrel;have HK:=QA hk;have U:=QA hs;have E:=QA Y;clear hk hs Y;by_cases hjl:j<xs.length
  ·have e1:decide (j<xs.length)=true:=decide_eq_true hjl;have V:j<ys.length:=by have:=Q.out;omega
   have e2:decide (j<ys.length)=true:=decide_eq_true V;obtain⟨x,Z⟩:∃z,xs[j]?=some z:=⟨xs[j],ZL hjl⟩
   obtain⟨y,hy⟩:∃z,ys[j]?=some z:=⟨ys[j],ZL V⟩
   have O:Hid (S=(Dq.Var.same x y&&Dq.sameL Dq.Var.same (xs.drop (j+1)) (ys.drop (j+1)))):=by have:=U.out;rw[Dq.drop_at Z,Dq.drop_at hy,Dq.sameL]at this;exact QA this
   have am:=QA (ac.out x (ZE Z) y);obtain⟨g,o,cs,ha,-,F,I,B,hd⟩:=aa.out.el j x.d (by rw[ZK,Z];rfl);obtain⟨H,G,aQ,hb,-,C,T,A,R⟩:=ad.out.el j y.d (by rw[ZK,hy];rfl);obtain⟨a1,a2,u1,u2,rfl,-⟩:=Dq.Var.opened hd;obtain⟨b1,b2,v1,v2,rfl,-⟩:=Dq.Var.opened R;have k0:wr.cell? ⟨g,o+j*9,none⟩=_:=(E.out.cell (p:=⟨g,o+j*9,none⟩) F).trans (B 0 _ rfl);have k1:wr.cell? ⟨g,o+j*9+1,none⟩=_:=(E.out.cell (p:=⟨g,o+j*9+1,none⟩) F).trans (B 1 _ rfl);have k2:wr.cell? ⟨g,o+j*9+2,none⟩=_:=(E.out.cell (p:=⟨g,o+j*9+2,none⟩) F).trans (B 2 _ rfl);have k3:wr.cell? ⟨g,o+j*9+3,none⟩=_:=(E.out.cell (p:=⟨g,o+j*9+3,none⟩) F).trans (B 3 _ rfl);have k4:wr.cell? ⟨g,o+j*9+4,none⟩=_:=(E.out.cell (p:=⟨g,o+j*9+4,none⟩) F).trans (B 4 _ rfl);have k5:wr.cell? ⟨g,o+j*9+5,none⟩=_:=(E.out.cell (p:=⟨g,o+j*9+5,none⟩) F).trans (B 5 _ rfl);have k6:wr.cell? ⟨g,o+j*9+6,none⟩=_:=(E.out.cell (p:=⟨g,o+j*9+6,none⟩) F).trans (B 6 _ rfl);have k7:wr.cell? ⟨g,o+j*9+7,none⟩=_:=(E.out.cell (p:=⟨g,o+j*9+7,none⟩) F).trans (B 7 _ rfl);have k8:wr.cell? ⟨g,o+j*9+8,none⟩=_:=(E.out.cell (p:=⟨g,o+j*9+8,none⟩) F).trans (B 8 _ rfl);obtain⟨K,L⟩:∃z,z=wr.alloc (.cells #[.string ⟨x.name.toArray⟩,.string ⟨x.type.toArray⟩,.bool x.has,.int .i64 x.dflt.kind,.string ⟨x.dflt.text.toArray⟩,.slice a1 x.dflt.items.length u1,.slice a2 x.dflt.fields.length u2,.int .i64 x.dflt.at_,.int .i64 x.at_] 100):=⟨_,rfl⟩
   have D:Below w.heap.size w K:=by rw[L];exact E.out.alloc E.out.size _
   have m0:K.cell? ⟨H,G+j*9,none⟩=_:=(D.cell (p:=⟨H,G+j*9,none⟩) C).trans (A 0 _ rfl);have m1:K.cell? ⟨H,G+j*9+1,none⟩=_:=(D.cell (p:=⟨H,G+j*9+1,none⟩) C).trans (A 1 _ rfl);have m2:K.cell? ⟨H,G+j*9+2,none⟩=_:=(D.cell (p:=⟨H,G+j*9+2,none⟩) C).trans (A 2 _ rfl);have m3:K.cell? ⟨H,G+j*9+3,none⟩=_:=(D.cell (p:=⟨H,G+j*9+3,none⟩) C).trans (A 3 _ rfl);have m4:K.cell? ⟨H,G+j*9+4,none⟩=_:=(D.cell (p:=⟨H,G+j*9+4,none⟩) C).trans (A 4 _ rfl);have m5:K.cell? ⟨H,G+j*9+5,none⟩=_:=(D.cell (p:=⟨H,G+j*9+5,none⟩) C).trans (A 5 _ rfl);have m6:K.cell? ⟨H,G+j*9+6,none⟩=_:=(D.cell (p:=⟨H,G+j*9+6,none⟩) C).trans (A 6 _ rfl);have m7:K.cell? ⟨H,G+j*9+7,none⟩=_:=(D.cell (p:=⟨H,G+j*9+7,none⟩) C).trans (A 7 _ rfl);have m8:K.cell? ⟨H,G+j*9+8,none⟩=_:=(D.cell (p:=⟨H,G+j*9+8,none⟩) C).trans (A 8 _ rfl);rw[L]at m0 m1 m2 m3 m4 m5 m6 m7 m8;subst ha;subst hb;obtain⟨wc,N⟩:∃z,z=(wr.alloc (.cells #[.string ⟨x.name.toArray⟩,.string ⟨x.type.toArray⟩,.bool x.has,.int .i64 x.dflt.kind,.string ⟨x.dflt.text.toArray⟩,.slice a1 x.dflt.items.length u1,.slice a2 x.dflt.fields.length u2,.int .i64 x.dflt.at_,.int .i64 x.at_] 100)).alloc (.cells #[.string ⟨y.name.toArray⟩,.string ⟨y.type.toArray⟩,.bool y.has,.int .i64 y.dflt.kind,.string ⟨y.dflt.text.toArray⟩,.slice b1 y.dflt.items.length v1,.slice b2 y.dflt.fields.length v2,.int .i64 y.dflt.at_,.int .i64 y.at_] 100):=⟨_,rfl⟩
   have M:Below w.heap.size w wc:=by rw[N,← L];exact D.alloc D.size _
   have X:=QA M;have J:=QA (am.out a1 a2 b1 b2 u1 u2 v1 v2 wc P (hd.to (AE.below M)) (R.to (AE.below M)));rw[N]at J;have an:=QA N;clear Z hy I T B A hd R D M L N U;go_wp2_with fail;refine J.out.mono ?_;rintro r w2 ⟨rfl,hb2⟩;rw[← an.out]at hb2;have W:=QA (X.out.trans (hb2.mono X.out.size));clear hb2 k0 k1 k2 k3 k4 k5 k6 k7 k8 m0 m1 m2 m3 m4 m5 m6 m7 m8 J;obtain⟨q,hq⟩:∃q,q=Dq.Var.same x y:=⟨_,rfl⟩
   rw[← hq];have HQ:=QA hq;clear hq;cases q
   ·go_wp2_with fail;go_ret;exact⟨by rw[O.out,← HQ.out];rfl,W.out⟩
   ·go_wp2_with fail;go_roundg (xs.length+1-(j+1))
    case measure=>rw[HK.out];omega
    case rel=>exact⟨j+1,rfl,hjl,by go_num,by rw[O.out,← HQ.out];rfl,W.out⟩
  ·have e1:decide (j<xs.length)=false:=decide_eq_false hjl;have O:Hid (S=true):=by
    have:=U.out;rw[ZH (by omega),ZH (by have:=Q.out;omega),Dq.sameL]at this;exact QA this
   go_wp2_with fail;go_ret;exact⟨by rw[O.out];rfl,E.out⟩
theorem Qf (x y:Dq.Var) (hc:Dq.varC x≤1000000000):ElV x y:=by
 intro a1 a2 b1 b2 c1 c2 d1 d2 w P hx hy;have T:=hx;have L:=hy;obtain⟨M,K,f1,f2,ex,F⟩:=Dq.Var.opened hx;obtain⟨rfl,rfl,rfl,rfl⟩:a1=M∧c1=f1∧a2=K∧c2=f2:=by simpa [and_assoc] using ex
 clear ex;obtain⟨M,K,f1,f2,ex,D⟩:=Dq.Var.opened hy;obtain⟨rfl,rfl,rfl,rfl⟩:b1=M∧d1=f1∧b2=K∧d2=f2:=by simpa [and_assoc] using ex
 clear ex;have I:=F;have G:=D;unfold AN at I G;have hn:x.dflt.n≤1000000000:=by have:Dq.varC x=6+x.name.length+x.type.length+x.dflt.cost:=rfl;have:=Vl.Z.n_cost x.dflt;omega
 clear F D;obtain⟨E,o⟩:∃z,z=(w.alloc (.cells #[.string ⟨x.name.toArray⟩,.string ⟨x.type.toArray⟩,.bool x.has,.int .i64 x.dflt.kind,.string ⟨x.dflt.text.toArray⟩,.slice a1 x.dflt.items.length c1,.slice a2 x.dflt.fields.length c2,.int .i64 x.dflt.at_,.int .i64 x.at_] 100)).alloc (.cells #[.string ⟨y.name.toArray⟩,.string ⟨y.type.toArray⟩,.bool y.has,.int .i64 y.dflt.kind,.string ⟨y.dflt.text.toArray⟩,.slice b1 y.dflt.items.length d1,.slice b2 y.dflt.fields.length d2,.int .i64 y.dflt.at_,.int .i64 y.at_] 100):=⟨_,rfl⟩
 have H:Below w.heap.size w E:=by rw[o];exact ((Below.refl _ _).alloc (QM _) _).alloc (by simp) _
 have X:Hid (E.heap[w.heap.size]?=some (.cells #[.string ⟨x.name.toArray⟩,.string ⟨x.type.toArray⟩,.bool x.has,.int .i64 x.dflt.kind,.string ⟨x.dflt.text.toArray⟩,.slice a1 x.dflt.items.length c1,.slice a2 x.dflt.fields.length c2,.int .i64 x.dflt.at_,.int .i64 x.at_] 100 (0,0))):=by rw[o];exact QA (by rw[Lib.alloc_old _ _ _ (by simp)];exact AC _ _)
 have Y:Hid (E.heap[w.heap.size+1]?=some (.cells #[.string ⟨y.name.toArray⟩,.string ⟨y.type.toArray⟩,.bool y.has,.int .i64 y.dflt.kind,.string ⟨y.dflt.text.toArray⟩,.slice b1 y.dflt.items.length d1,.slice b2 y.dflt.fields.length d2,.int .i64 y.dflt.at_,.int .i64 y.at_] 100 (0,0))):=by
  rw[o];have:=AC (w.alloc (.cells #[.string ⟨x.name.toArray⟩,.string ⟨x.type.toArray⟩,.bool x.has,.int .i64 x.dflt.kind,.string ⟨x.dflt.text.toArray⟩,.slice a1 x.dflt.items.length c1,.slice a2 x.dflt.fields.length c2,.int .i64 x.dflt.at_,.int .i64 x.at_] 100)) (.cells #[.string ⟨y.name.toArray⟩,.string ⟨y.type.toArray⟩,.bool y.has,.int .i64 y.dflt.kind,.string ⟨y.dflt.text.toArray⟩,.slice b1 y.dflt.items.length d1,.slice b2 y.dflt.fields.length d2,.int .i64 y.dflt.at_,.int .i64 y.at_] 100);rw[show (w.alloc (.cells #[.string ⟨x.name.toArray⟩,.string ⟨x.type.toArray⟩,.bool x.has,.int .i64 x.dflt.kind,.string ⟨x.dflt.text.toArray⟩,.slice a1 x.dflt.items.length c1,.slice a2 x.dflt.fields.length c2,.int .i64 x.dflt.at_,.int .i64 x.at_] 100)).heap.size=w.heap.size+1 by simp]at this;exact QA this
 have ae:E.heap.size=w.heap.size+2:=by rw[o];simp
 have C:=QA H;have B:=QA o;have A:Hid (Dq.Var.same x y=(decide (x.name=y.name)&&(decide (x.type=y.type)&&(decide (x.has=y.has)&&(x.dflt.same y.dflt))))):=QA (rfl);obtain⟨S,hS⟩:∃S,S=Dq.Var.same x y:=⟨_,rfl⟩
 rw[← hS]at A ⊢;clear hx hy T L H o hS;obtain⟨q0,R⟩:∃q,(x.name==y.name)=q:=⟨_,rfl⟩
 have J:Hid (decide (x.name=y.name)=q0):=QA (by rw[← R];by_cases h:x.name=y.name<;>simp[h]);obtain⟨V,Q⟩:∃q,(x.type==y.type)=q:=⟨_,rfl⟩
 have O:Hid (decide (x.type=y.type)=V):=QA (by rw[← Q];by_cases h:x.type=y.type<;>simp[h]);obtain⟨W,N⟩:∃q,(x.has==y.has)=q:=⟨_,rfl⟩
 have Q2:Hid (decide (x.has=y.has)=W):=QA (by rw[← N];by_cases h:x.has=y.has<;>simp[h]);cases q0
 ·go_enter Tryz.func62,Tryz.ntmps62;go_wp2_with fail;go_ret;exact⟨by rw[A.out,J.out];rfl,by rw[← B.out];exact C.out⟩
 cases V
 ·go_enter Tryz.func62,Tryz.ntmps62;go_wp2_with fail;go_ret;exact⟨by rw[A.out,J.out,O.out];rfl,by rw[← B.out];exact C.out⟩
 cases W
 ·go_enter Tryz.func62,Tryz.ntmps62;go_wp2_with fail;go_ret;exact⟨by rw[A.out,J.out,O.out,Q2.out];rfl,by rw[← B.out];exact C.out⟩
 go_enter Tryz.func62,Tryz.ntmps62;go_wp2_with fail;rw[← B.out];refine (Dl 1000000000 (by decide) x.dflt y.dflt hn a1 a2 b1 b2 c1 c2 d1 d2 E P (I.to (AE.below C.out)) (G.to (AE.below C.out))).mono ?_;rintro r w1 ⟨rfl,hb⟩;have B1:=QA (C.out.trans (hb.mono C.out.size));have X1:Hid (w1.heap[w.heap.size]?=_):=QA ((hb.block _ (block_lt X.out)).trans X.out);have Y1:Hid (w1.heap[w.heap.size+1]?=_):=QA ((hb.block _ (block_lt Y.out)).trans Y.out);clear hb;obtain⟨r1,U⟩:∃q,q=x.dflt.same y.dflt:=⟨_,rfl⟩
 rw[← U];have R1:=QA U.symm;clear U;go_wp2_with fail;go_ret;exact⟨by rw[A.out,J.out,O.out,Q2.out,R1.out];rfl,B1.out⟩
def ElO (x y:Dq.Op):Prop:=∀(a1 a2 a3 b1 b2 b3:Option Addr) (c1 c2 c3 d1 d2 d3:Nat) (w:World) (P:Nat→Prop),Reads w P x.d [.int .i64 x.kind,.string ⟨x.name.toArray⟩,.slice a1 x.vars.length c1,.slice a2 x.dirs.length c2,.slice a3 x.sels.length c3,.int .i64 x.at_]→Reads w P y.d [.int .i64 y.kind,.string ⟨y.name.toArray⟩,.slice b1 y.vars.length d1,.slice b2 y.dirs.length d2,.slice b3 y.sels.length d3,.int .i64 y.at_] →
 Calls Tryz.prog 58 #[.agg #[.int .i64 x.kind,.string ⟨x.name.toArray⟩,.slice a1 x.vars.length c1,.slice a2 x.dirs.length c2,.slice a3 x.sels.length c3,.int .i64 x.at_],.agg #[.int .i64 y.kind,.string ⟨y.name.toArray⟩,.slice b1 y.vars.length d1,.slice b2 y.dirs.length d2,.slice b3 y.sels.length d3,.int .i64 y.at_]] w (λr w'=>r=.returned (.bool (Dq.Op.same x y))∧Below w.heap.size w w')
theorem Pn (xs ys:List Dq.Op) (IH:∀x∈xs,∀y,ElO x y) (a b:Option Addr) (c d:Nat) (w:World) (P:Nat→Prop) (hlx:xs.length≤9223372036854775807)
  (hrx:Reads w P (.seq 6 (xs.map Dq.Op.d)) [.slice a xs.length c]) (hry:Reads w P (.seq 6 (ys.map Dq.Op.d)) [.slice b ys.length d]) :
  Calls Tryz.prog 57 #[.slice a xs.length c,.slice b ys.length d,.func (.func 58) #[] #[]] w (λr w'=>r=.returned (.bool (Dq.sameL Dq.Op.same xs ys))∧Below w.heap.size w w'):=by
 have aa:=QA hrx;have af:=QA hry;have ac:=QA IH;clear hrx hry IH;by_cases F:xs.length=ys.length;rotate_left
 ·have e0:((xs.length:Int) != (ys.length:Int))=true:=neT (by omega);have HS:Hid (Dq.sameL Dq.Op.same xs ys=false):=QA (Dq.sameL_ne F);go_enter Tryz.func57,Tryz.ntmps57;go_wp2_with fail;go_ret;exact⟨by rw[HS.out];rfl,Below.refl _ _⟩
 have e0:((xs.length:Int) != (ys.length:Int))=false:=neF (by omega);obtain⟨S,hS⟩:∃S,S=Dq.sameL Dq.Op.same xs ys:=⟨_,rfl⟩
 have HS:=QA hS;rw[← hS];clear hS;have O:=QA F;clear F;go_enter Tryz.func57,Tryz.ntmps57;go_wp2_with fail
 go_loopg [17] (xs.length+1) (λk i wr=>∃(j:Nat),k=xs.length+1-j∧j≤xs.length∧i=.int .i64 j∧S=Dq.sameL Dq.Op.same (xs.drop j) (ys.drop j)∧Below w.heap.size w wr)
 case atStart=>exact⟨0,rfl,ZX _,rfl,HS.out,Below.refl _ _⟩
 case round =>
  obtain⟨j,hk,hj,rfl,hs,Y⟩:=hrel;have HK:=QA hk;have T:=QA hs;have E:=QA Y;clear hk hs Y;by_cases hjl:j<xs.length
  ·have e1:decide (j<xs.length)=true:=decide_eq_true hjl;have V:j<ys.length:=by have:=O.out;omega
   have e2:decide (j<ys.length)=true:=decide_eq_true V;obtain⟨x,Z⟩:∃z,xs[j]?=some z:=⟨xs[j],ZL hjl⟩
   obtain⟨y,hy⟩:∃z,ys[j]?=some z:=⟨ys[j],ZL V⟩
   have N:Hid (S=(Dq.Op.same x y&&Dq.sameL Dq.Op.same (xs.drop (j+1)) (ys.drop (j+1)))):=by have:=T.out;rw[Dq.drop_at Z,Dq.drop_at hy,Dq.sameL]at this;exact QA this
   have ao:=QA (ac.out x (ZE Z) y);obtain⟨g,o,cs,ha,-,H,F,B,hd⟩:=aa.out.el j x.d (by rw[ZK,Z];rfl);obtain⟨J,I,aO,hb,-,C,R,A,Q⟩:=af.out.el j y.d (by rw[ZK,hy];rfl);obtain⟨a1,a2,a3,u1,u2,u3,rfl,-⟩:=Dq.Op.opened hd;obtain⟨b1,b2,b3,v1,v2,v3,rfl,-⟩:=Dq.Op.opened Q;have k0:wr.cell? ⟨g,o+j*6,none⟩=_:=(E.out.cell (p:=⟨g,o+j*6,none⟩) H).trans (B 0 _ rfl);have k1:wr.cell? ⟨g,o+j*6+1,none⟩=_:=(E.out.cell (p:=⟨g,o+j*6+1,none⟩) H).trans (B 1 _ rfl);have k2:wr.cell? ⟨g,o+j*6+2,none⟩=_:=(E.out.cell (p:=⟨g,o+j*6+2,none⟩) H).trans (B 2 _ rfl);have k3:wr.cell? ⟨g,o+j*6+3,none⟩=_:=(E.out.cell (p:=⟨g,o+j*6+3,none⟩) H).trans (B 3 _ rfl);have k4:wr.cell? ⟨g,o+j*6+4,none⟩=_:=(E.out.cell (p:=⟨g,o+j*6+4,none⟩) H).trans (B 4 _ rfl);have k5:wr.cell? ⟨g,o+j*6+5,none⟩=_:=(E.out.cell (p:=⟨g,o+j*6+5,none⟩) H).trans (B 5 _ rfl);obtain⟨U,K⟩:∃z,z=wr.alloc (.cells #[.int .i64 x.kind,.string ⟨x.name.toArray⟩,.slice a1 x.vars.length u1,.slice a2 x.dirs.length u2,.slice a3 x.sels.length u3,.int .i64 x.at_] 96):=⟨_,rfl⟩
   have D:Below w.heap.size w U:=by rw[K];exact E.out.alloc E.out.size _
   have m0:U.cell? ⟨J,I+j*6,none⟩=_:=(D.cell (p:=⟨J,I+j*6,none⟩) C).trans (A 0 _ rfl);have m1:U.cell? ⟨J,I+j*6+1,none⟩=_:=(D.cell (p:=⟨J,I+j*6+1,none⟩) C).trans (A 1 _ rfl);have m2:U.cell? ⟨J,I+j*6+2,none⟩=_:=(D.cell (p:=⟨J,I+j*6+2,none⟩) C).trans (A 2 _ rfl);have m3:U.cell? ⟨J,I+j*6+3,none⟩=_:=(D.cell (p:=⟨J,I+j*6+3,none⟩) C).trans (A 3 _ rfl);have m4:U.cell? ⟨J,I+j*6+4,none⟩=_:=(D.cell (p:=⟨J,I+j*6+4,none⟩) C).trans (A 4 _ rfl);have m5:U.cell? ⟨J,I+j*6+5,none⟩=_:=(D.cell (p:=⟨J,I+j*6+5,none⟩) C).trans (A 5 _ rfl);rw[K]at m0 m1 m2 m3 m4 m5;subst ha;subst hb;obtain⟨wc,M⟩:∃z,z=(wr.alloc (.cells #[.int .i64 x.kind,.string ⟨x.name.toArray⟩,.slice a1 x.vars.length u1,.slice a2 x.dirs.length u2,.slice a3 x.sels.length u3,.int .i64 x.at_] 96)).alloc (.cells #[.int .i64 y.kind,.string ⟨y.name.toArray⟩,.slice b1 y.vars.length v1,.slice b2 y.dirs.length v2,.slice b3 y.sels.length v3,.int .i64 y.at_] 96):=⟨_,rfl⟩
   have L:Below w.heap.size w wc:=by rw[M,← K];exact D.alloc D.size _
   have X:=QA L;have G:=QA (ao.out a1 a2 a3 b1 b2 b3 u1 u2 u3 v1 v2 v3 wc P (hd.to (AE.below L)) (Q.to (AE.below L)));rw[M]at G;have ap:=QA M;clear Z hy F R B A hd Q D L K M T;go_wp2_with fail;refine G.out.mono ?_;rintro r w2 ⟨rfl,hb2⟩;rw[← ap.out]at hb2;have W:=QA (X.out.trans (hb2.mono X.out.size));clear hb2 k0 k1 k2 k3 k4 k5 m0 m1 m2 m3 m4 m5 G;obtain⟨q,hq⟩:∃q,q=Dq.Op.same x y:=⟨_,rfl⟩
   rw[← hq];have HQ:=QA hq;clear hq;cases q
   ·go_wp2_with fail;go_ret;exact⟨by rw[N.out,← HQ.out];rfl,W.out⟩
   ·go_wp2_with fail;go_roundg (xs.length+1-(j+1))
    case measure=>rw[HK.out];omega
    case rel=>exact⟨j+1,rfl,hjl,by go_num,by rw[N.out,← HQ.out];rfl,W.out⟩
  ·have e1:decide (j<xs.length)=false:=decide_eq_false hjl;have N:Hid (S=true):=by
    have:=T.out;rw[ZH (by omega),ZH (by have:=O.out;omega),Dq.sameL]at this;exact QA this
   go_wp2_with fail;go_ret;exact⟨by rw[N.out];rfl,E.out⟩
theorem Qb (x y:Dq.Op) (hc:Vl.sumC Dq.varC 2 x.vars≤1000000000∧Dq.dirsC x.dirs≤1000000000∧Dq.Sel.costs x.sels≤1000000000):ElO x y:=by
 intro a1 a2 a3 b1 b2 b3 c1 c2 c3 d1 d2 d3 w P hx hy;have aA:=hx;have aq:=hy;obtain⟨e1,e2,e3,f1,f2,f3,ex,F,C,G⟩:=Dq.Op.opened hx;obtain⟨rfl,rfl,rfl,rfl,rfl,rfl⟩:a1=e1∧c1=f1∧a2=e2∧c2=f2∧a3=e3∧c3=f3:=by simpa [and_assoc] using ex
 clear ex;obtain⟨e1,e2,e3,f1,f2,f3,ex,H,D,E⟩:=Dq.Op.opened hy;obtain⟨rfl,rfl,rfl,rfl,rfl,rfl⟩:b1=e1∧d1=f1∧b2=e2∧d2=f2∧b3=e3∧d3=f3:=by simpa [and_assoc] using ex
 clear ex;have aO:=Dq.varsC_ln x.vars;have aM:=Dq.dirsC_ln x.dirs;have aN:=Dq.selsC_ln x.sels;have HV:Hid (∀z∈x.vars,∀y,ElV z y):=QA (λz hz y=>Qf z y (by have:=Vl.sumC_mem Dq.varC 2 hz;omega));obtain⟨aS,aV,aU⟩:=hc;obtain⟨w0,o⟩:∃z,z=(w.alloc (.cells #[.int .i64 x.kind,.string ⟨x.name.toArray⟩,.slice a1 x.vars.length c1,.slice a2 x.dirs.length c2,.slice a3 x.sels.length c3,.int .i64 x.at_] 96)).alloc (.cells #[.int .i64 y.kind,.string ⟨y.name.toArray⟩,.slice b1 y.vars.length d1,.slice b2 y.dirs.length d2,.slice b3 y.sels.length d3,.int .i64 y.at_] 96):=⟨_,rfl⟩
 have aa:Below w.heap.size w w0:=by rw[o];exact ((Below.refl _ _).alloc (QM _) _).alloc (by simp) _
 have X0:Hid (w0.heap[w.heap.size]?=some (.cells #[.int .i64 x.kind,.string ⟨x.name.toArray⟩,.slice a1 x.vars.length c1,.slice a2 x.dirs.length c2,.slice a3 x.sels.length c3,.int .i64 x.at_] 96 (0,0))):=by rw[o];exact QA (by rw[Lib.alloc_old _ _ _ (by simp)];exact AC _ _)
 have Y0:Hid (w0.heap[w.heap.size+1]?=some (.cells #[.int .i64 y.kind,.string ⟨y.name.toArray⟩,.slice b1 y.vars.length d1,.slice b2 y.dirs.length d2,.slice b3 y.sels.length d3,.int .i64 y.at_] 96 (0,0))):=by
  rw[o];have:=AC (w.alloc (.cells #[.int .i64 x.kind,.string ⟨x.name.toArray⟩,.slice a1 x.vars.length c1,.slice a2 x.dirs.length c2,.slice a3 x.sels.length c3,.int .i64 x.at_] 96)) (.cells #[.int .i64 y.kind,.string ⟨y.name.toArray⟩,.slice b1 y.vars.length d1,.slice b2 y.dirs.length d2,.slice b3 y.sels.length d3,.int .i64 y.at_] 96);rw[show (w.alloc (.cells #[.int .i64 x.kind,.string ⟨x.name.toArray⟩,.slice a1 x.vars.length c1,.slice a2 x.dirs.length c2,.slice a3 x.sels.length c3,.int .i64 x.at_] 96)).heap.size=w.heap.size+1 by simp]at this;exact QA this
 have aQ:w0.heap.size=w.heap.size+2:=by rw[o];simp
 have J:=QA aa;have I:=QA o;have A:Hid (Dq.Op.same x y=(decide (x.kind=y.kind)&&(decide (x.name=y.name)&&(Dq.sameL Dq.Dir.same x.dirs y.dirs&&(Dq.sameL Dq.Sel.same x.sels y.sels&&(Dq.sameL Dq.Var.same x.vars y.vars)))))):=QA (rfl);obtain⟨S,hS⟩:∃S,S=Dq.Op.same x y:=⟨_,rfl⟩
 rw[← hS]at A ⊢;clear hx hy aA aq aa o hS;obtain⟨q0,au⟩:∃q,(x.kind==y.kind)=q:=⟨_,rfl⟩
 have Q0:Hid (decide (x.kind=y.kind)=q0):=QA (by rw[← au];by_cases h:x.kind=y.kind<;>simp[h]);obtain⟨q1,aE⟩:∃q,(x.name==y.name)=q:=⟨_,rfl⟩
 have Q1:Hid (decide (x.name=y.name)=q1):=QA (by rw[← aE];by_cases h:x.name=y.name<;>simp[h]);cases q0
 ·go_enter Tryz.func58,Tryz.ntmps58;go_wp2_with fail;go_ret;exact⟨by rw[A.out,Q0.out];rfl,by rw[← I.out];exact J.out⟩
 cases q1
 ·go_enter Tryz.func58,Tryz.ntmps58;go_wp2_with fail;go_ret;exact⟨by rw[A.out,Q0.out,Q1.out];rfl,by rw[← I.out];exact J.out⟩
 go_enter Tryz.func58,Tryz.ntmps58;go_wp2_with fail;rw[← I.out];refine (D6 x.dirs y.dirs (by omega) a2 b2 c2 d2 w0 P (by omega) (C.to (AE.below J.out)) (D.to (AE.below J.out))).mono ?_;rintro r w1 ⟨rfl,hb⟩;have Z:=QA (J.out.trans (hb.mono J.out.size));have X1:Hid (w1.heap[w.heap.size]?=_):=QA ((hb.block _ (block_lt X0.out)).trans X0.out);have Y1:Hid (w1.heap[w.heap.size+1]?=_):=QA ((hb.block _ (block_lt Y0.out)).trans Y0.out);clear hb;obtain⟨r1,B⟩:∃q,q=Dq.sameL Dq.Dir.same x.dirs y.dirs:=⟨_,rfl⟩
 rw[← B];have R1:=QA B.symm;clear B;cases r1
 ·go_wp2_with fail;go_ret;exact⟨by rw[A.out,Q0.out,Q1.out,R1.out];rfl,Z.out⟩
 obtain⟨X,ae,Q,K,ab,ah⟩:=BQ X1.out rfl rfl rfl rfl rfl rfl;obtain⟨Y,ac,an,L,ak,U⟩:=BQ Y1.out rfl rfl rfl rfl rfl rfl;go_wp2_with fail;refine (Fi x.sels y.sels (by omega) a3 b3 c3 d3 w1 P (by omega) (G.to (AE.below Z.out)) (E.to (AE.below Z.out))).mono ?_;rintro r w2 ⟨rfl,hb⟩;have R:=QA (Z.out.trans (hb.mono Z.out.size));have X2:Hid (w2.heap[w.heap.size]?=_):=QA ((hb.block _ (block_lt X1.out)).trans X1.out);have Y2:Hid (w2.heap[w.heap.size+1]?=_):=QA ((hb.block _ (block_lt Y1.out)).trans Y1.out);clear X ae Q K ab ah Y ac an L ak U;clear hb;obtain⟨r2,B⟩:∃q,q=Dq.sameL Dq.Sel.same x.sels y.sels:=⟨_,rfl⟩
 rw[← B];have R2:=QA B.symm;clear B;cases r2
 ·go_wp2_with fail;go_ret;exact⟨by rw[A.out,Q0.out,Q1.out,R1.out,R2.out];rfl,R.out⟩
 obtain⟨af,W,ao,ag,T,ai⟩:=BQ X2.out rfl rfl rfl rfl rfl rfl;obtain⟨M,am,aj,V,N,O⟩:=BQ Y2.out rfl rfl rfl rfl rfl rfl;go_wp2_with fail;refine (Pj x.vars y.vars HV.out a1 b1 c1 d1 w2 P (by omega) (F.to (AE.below R.out)) (H.to (AE.below R.out))).mono ?_;rintro r w3 ⟨rfl,hb⟩;have B3:=QA (R.out.trans (hb.mono R.out.size));have X3:Hid (w3.heap[w.heap.size]?=_):=QA ((hb.block _ (block_lt X2.out)).trans X2.out);have Y3:Hid (w3.heap[w.heap.size+1]?=_):=QA ((hb.block _ (block_lt Y2.out)).trans Y2.out);clear af W ao ag T ai M am aj V N O;clear hb;obtain⟨r3,B⟩:∃q,q=Dq.sameL Dq.Var.same x.vars y.vars:=⟨_,rfl⟩
 rw[← B];have R3:=QA B.symm;clear B;go_wp2_with fail;go_ret;exact⟨by rw[A.out,Q0.out,Q1.out,R1.out,R2.out,R3.out];rfl,B3.out⟩
def ElF (x y:Dq.Fr):Prop:=∀(a1 a2 b1 b2:Option Addr) (c1 c2 d1 d2:Nat) (w:World) (P:Nat→Prop),Reads w P x.d [.string ⟨x.name.toArray⟩,.string ⟨x.on.toArray⟩,.slice a1 x.dirs.length c1,.slice a2 x.sels.length c2,.int .i64 x.at_]→Reads w P y.d [.string ⟨y.name.toArray⟩,.string ⟨y.on.toArray⟩,.slice b1 y.dirs.length d1,.slice b2 y.sels.length d2,.int .i64 y.at_] →
 Calls Tryz.prog 64 #[.agg #[.string ⟨x.name.toArray⟩,.string ⟨x.on.toArray⟩,.slice a1 x.dirs.length c1,.slice a2 x.sels.length c2,.int .i64 x.at_],.agg #[.string ⟨y.name.toArray⟩,.string ⟨y.on.toArray⟩,.slice b1 y.dirs.length d1,.slice b2 y.sels.length d2,.int .i64 y.at_]] w (λr w'=>r=.returned (.bool (Dq.Fr.same x y))∧Below w.heap.size w w')
theorem P4 (xs ys:List Dq.Fr) (IH:∀x∈xs,∀y,ElF x y) (a b:Option Addr) (c d:Nat) (w:World) (P:Nat→Prop) (hlx:xs.length≤9223372036854775807)
  (hrx:Reads w P (.seq 5 (xs.map Dq.Fr.d)) [.slice a xs.length c]) (hry:Reads w P (.seq 5 (ys.map Dq.Fr.d)) [.slice b ys.length d]) :
  Calls Tryz.prog 63 #[.slice a xs.length c,.slice b ys.length d,.func (.func 64) #[] #[]] w (λr w'=>r=.returned (.bool (Dq.sameL Dq.Fr.same xs ys))∧Below w.heap.size w w'):=by
 have aa:=QA hrx;have ab:=QA hry;have ae:=QA IH;clear hrx hry IH;by_cases D:xs.length=ys.length;rotate_left
 ·have e0:((xs.length:Int) != (ys.length:Int))=true:=neT (by omega);have HS:Hid (Dq.sameL Dq.Fr.same xs ys=false):=QA (Dq.sameL_ne D);go_enter Tryz.func63,Tryz.ntmps63;go_wp2_with fail;go_ret;exact⟨by rw[HS.out];rfl,Below.refl _ _⟩
 have e0:((xs.length:Int) != (ys.length:Int))=false:=neF (by omega);obtain⟨S,hS⟩:∃S,S=Dq.sameL Dq.Fr.same xs ys:=⟨_,rfl⟩
 have HS:=QA hS;rw[← hS];clear hS;have O:=QA D;clear D;go_enter Tryz.func63,Tryz.ntmps63;go_wp2_with fail
 go_loopg [17] (xs.length+1) (λk i wr=>∃(j:Nat),k=xs.length+1-j∧j≤xs.length∧i=.int .i64 j∧S=Dq.sameL Dq.Fr.same (xs.drop j) (ys.drop j)∧Below w.heap.size w wr)
 case atStart=>exact⟨0,rfl,ZX _,rfl,HS.out,Below.refl _ _⟩
 case round =>
  obtain⟨j,hk,hj,rfl,hs,W⟩:=hrel;have HK:=QA hk;have T:=QA hs;have C:=QA W;clear hk hs W;by_cases hjl:j<xs.length
  ·have e1:decide (j<xs.length)=true:=decide_eq_true hjl;have V:j<ys.length:=by have:=O.out;omega
   have e2:decide (j<ys.length)=true:=decide_eq_true V;obtain⟨x,Z⟩:∃z,xs[j]?=some z:=⟨xs[j],ZL hjl⟩
   obtain⟨y,hy⟩:∃z,ys[j]?=some z:=⟨ys[j],ZL V⟩
   have N:Hid (S=(Dq.Fr.same x y&&Dq.sameL Dq.Fr.same (xs.drop (j+1)) (ys.drop (j+1)))):=by have:=T.out;rw[Dq.drop_at Z,Dq.drop_at hy,Dq.sameL]at this;exact QA this
   have ad:=QA (ae.out x (ZE Z) y);obtain⟨g,o,cs,ha,-,H,D,B,hd⟩:=aa.out.el j x.d (by rw[ZK,Z];rfl);obtain⟨I,J,aG,hb,-,E,Q,A,R⟩:=ab.out.el j y.d (by rw[ZK,hy];rfl);obtain⟨a1,a2,u1,u2,rfl,-⟩:=Dq.Fr.opened hd;obtain⟨b1,b2,v1,v2,rfl,-⟩:=Dq.Fr.opened R;have k0:wr.cell? ⟨g,o+j*5,none⟩=_:=(C.out.cell (p:=⟨g,o+j*5,none⟩) H).trans (B 0 _ rfl);have k1:wr.cell? ⟨g,o+j*5+1,none⟩=_:=(C.out.cell (p:=⟨g,o+j*5+1,none⟩) H).trans (B 1 _ rfl);have k2:wr.cell? ⟨g,o+j*5+2,none⟩=_:=(C.out.cell (p:=⟨g,o+j*5+2,none⟩) H).trans (B 2 _ rfl);have k3:wr.cell? ⟨g,o+j*5+3,none⟩=_:=(C.out.cell (p:=⟨g,o+j*5+3,none⟩) H).trans (B 3 _ rfl);have k4:wr.cell? ⟨g,o+j*5+4,none⟩=_:=(C.out.cell (p:=⟨g,o+j*5+4,none⟩) H).trans (B 4 _ rfl);obtain⟨U,K⟩:∃z,z=wr.alloc (.cells #[.string ⟨x.name.toArray⟩,.string ⟨x.on.toArray⟩,.slice a1 x.dirs.length u1,.slice a2 x.sels.length u2,.int .i64 x.at_] 102):=⟨_,rfl⟩
   have F:Below w.heap.size w U:=by rw[K];exact C.out.alloc C.out.size _
   have m0:U.cell? ⟨I,J+j*5,none⟩=_:=(F.cell (p:=⟨I,J+j*5,none⟩) E).trans (A 0 _ rfl);have m1:U.cell? ⟨I,J+j*5+1,none⟩=_:=(F.cell (p:=⟨I,J+j*5+1,none⟩) E).trans (A 1 _ rfl);have m2:U.cell? ⟨I,J+j*5+2,none⟩=_:=(F.cell (p:=⟨I,J+j*5+2,none⟩) E).trans (A 2 _ rfl);have m3:U.cell? ⟨I,J+j*5+3,none⟩=_:=(F.cell (p:=⟨I,J+j*5+3,none⟩) E).trans (A 3 _ rfl);have m4:U.cell? ⟨I,J+j*5+4,none⟩=_:=(F.cell (p:=⟨I,J+j*5+4,none⟩) E).trans (A 4 _ rfl);rw[K]at m0 m1 m2 m3 m4;subst ha;subst hb;obtain⟨wc,L⟩:∃z,z=(wr.alloc (.cells #[.string ⟨x.name.toArray⟩,.string ⟨x.on.toArray⟩,.slice a1 x.dirs.length u1,.slice a2 x.sels.length u2,.int .i64 x.at_] 102)).alloc (.cells #[.string ⟨y.name.toArray⟩,.string ⟨y.on.toArray⟩,.slice b1 y.dirs.length v1,.slice b2 y.sels.length v2,.int .i64 y.at_] 102):=⟨_,rfl⟩
   have M:Below w.heap.size w wc:=by rw[L,← K];exact F.alloc F.size _
   have Y:=QA M;have G:=QA (ad.out a1 a2 b1 b2 u1 u2 v1 v2 wc P (hd.to (AE.below M)) (R.to (AE.below M)));rw[L]at G;have ak:=QA L;clear Z hy D Q B A hd R F M K L T;go_wp2_with fail;refine G.out.mono ?_;rintro r w2 ⟨rfl,hb2⟩;rw[← ak.out]at hb2;have X:=QA (Y.out.trans (hb2.mono Y.out.size));clear hb2 k0 k1 k2 k3 k4 m0 m1 m2 m3 m4 G;obtain⟨q,hq⟩:∃q,q=Dq.Fr.same x y:=⟨_,rfl⟩
   rw[← hq];have HQ:=QA hq;clear hq;cases q
   ·go_wp2_with fail;go_ret;exact⟨by rw[N.out,← HQ.out];rfl,X.out⟩
   ·go_wp2_with fail;go_roundg (xs.length+1-(j+1))
    case measure=>rw[HK.out];omega
    case rel=>exact⟨j+1,rfl,hjl,by go_num,by rw[N.out,← HQ.out];rfl,X.out⟩
  ·have e1:decide (j<xs.length)=false:=decide_eq_false hjl;have N:Hid (S=true):=by
    have:=T.out;rw[ZH (by omega),ZH (by have:=O.out;omega),Dq.sameL]at this;exact QA this
   go_wp2_with fail;go_ret;exact⟨by rw[N.out];rfl,C.out⟩
theorem Qj (x y:Dq.Fr) (hc:Dq.dirsC x.dirs≤1000000000∧Dq.Sel.costs x.sels≤1000000000):ElF x y:=by
 intro a1 a2 b1 b2 c1 c2 d1 d2 w P hx hy;have ag:=hx;have Z:=hy;obtain⟨e1,Y,f1,f2,ex,B,E⟩:=Dq.Fr.opened hx;obtain⟨rfl,rfl,rfl,rfl⟩:a1=e1∧c1=f1∧a2=Y∧c2=f2:=by simpa [and_assoc] using ex
 clear ex;obtain⟨e1,Y,f1,f2,ex,C,D⟩:=Dq.Fr.opened hy;obtain⟨rfl,rfl,rfl,rfl⟩:b1=e1∧d1=f1∧b2=Y∧d2=f2:=by simpa [and_assoc] using ex
 clear ex;have ap:=Dq.dirsC_ln x.dirs;have ar:=Dq.selsC_ln x.sels;obtain⟨aq,an⟩:=hc;obtain⟨K,o⟩:∃z,z=(w.alloc (.cells #[.string ⟨x.name.toArray⟩,.string ⟨x.on.toArray⟩,.slice a1 x.dirs.length c1,.slice a2 x.sels.length c2,.int .i64 x.at_] 102)).alloc (.cells #[.string ⟨y.name.toArray⟩,.string ⟨y.on.toArray⟩,.slice b1 y.dirs.length d1,.slice b2 y.sels.length d2,.int .i64 y.at_] 102):=⟨_,rfl⟩
 have V:Below w.heap.size w K:=by rw[o];exact ((Below.refl _ _).alloc (QM _) _).alloc (by simp) _
 have X0:Hid (K.heap[w.heap.size]?=some (.cells #[.string ⟨x.name.toArray⟩,.string ⟨x.on.toArray⟩,.slice a1 x.dirs.length c1,.slice a2 x.sels.length c2,.int .i64 x.at_] 102 (0,0))):=by rw[o];exact QA (by rw[Lib.alloc_old _ _ _ (by simp)];exact AC _ _)
 have Y0:Hid (K.heap[w.heap.size+1]?=some (.cells #[.string ⟨y.name.toArray⟩,.string ⟨y.on.toArray⟩,.slice b1 y.dirs.length d1,.slice b2 y.sels.length d2,.int .i64 y.at_] 102 (0,0))):=by
  rw[o];have:=AC (w.alloc (.cells #[.string ⟨x.name.toArray⟩,.string ⟨x.on.toArray⟩,.slice a1 x.dirs.length c1,.slice a2 x.sels.length c2,.int .i64 x.at_] 102)) (.cells #[.string ⟨y.name.toArray⟩,.string ⟨y.on.toArray⟩,.slice b1 y.dirs.length d1,.slice b2 y.sels.length d2,.int .i64 y.at_] 102);rw[show (w.alloc (.cells #[.string ⟨x.name.toArray⟩,.string ⟨x.on.toArray⟩,.slice a1 x.dirs.length c1,.slice a2 x.sels.length c2,.int .i64 x.at_] 102)).heap.size=w.heap.size+1 by simp]at this;exact QA this
 have av:K.heap.size=w.heap.size+2:=by rw[o];simp
 have H:=QA V;have F:=QA o;have A:Hid (Dq.Fr.same x y=(decide (x.name=y.name)&&(decide (x.on=y.on)&&(Dq.sameL Dq.Dir.same x.dirs y.dirs&&(Dq.sameL Dq.Sel.same x.sels y.sels))))):=QA (rfl);obtain⟨S,hS⟩:∃S,S=Dq.Fr.same x y:=⟨_,rfl⟩
 rw[← hS]at A ⊢;clear hx hy ag Z V o hS;obtain⟨q0,af⟩:∃q,(x.name==y.name)=q:=⟨_,rfl⟩
 have X:Hid (decide (x.name=y.name)=q0):=QA (by rw[← af];by_cases h:x.name=y.name<;>simp[h]);obtain⟨q1,ae⟩:∃q,(x.on==y.on)=q:=⟨_,rfl⟩
 have Q1:Hid (decide (x.on=y.on)=q1):=QA (by rw[← ae];by_cases h:x.on=y.on<;>simp[h]);cases q0
 ·go_enter Tryz.func64,Tryz.ntmps64;go_wp2_with fail;go_ret;exact⟨by rw[A.out,X.out];rfl,by rw[← F.out];exact H.out⟩
 cases q1
 ·go_enter Tryz.func64,Tryz.ntmps64;go_wp2_with fail;go_ret;exact⟨by rw[A.out,X.out,Q1.out];rfl,by rw[← F.out];exact H.out⟩
 go_enter Tryz.func64,Tryz.ntmps64;go_wp2_with fail;rw[← F.out];refine (D6 x.dirs y.dirs (by omega) a1 b1 c1 d1 K P (by omega) (B.to (AE.below H.out)) (C.to (AE.below H.out))).mono ?_;rintro r w1 ⟨rfl,hb⟩;have T:=QA (H.out.trans (hb.mono H.out.size));have X1:Hid (w1.heap[w.heap.size]?=_):=QA ((hb.block _ (block_lt X0.out)).trans X0.out);have Y1:Hid (w1.heap[w.heap.size+1]?=_):=QA ((hb.block _ (block_lt Y0.out)).trans Y0.out);clear hb;obtain⟨r1,G⟩:∃q,q=Dq.sameL Dq.Dir.same x.dirs y.dirs:=⟨_,rfl⟩
 rw[← G];have R1:=QA G.symm;clear G;cases r1
 ·go_wp2_with fail;go_ret;exact⟨by rw[A.out,X.out,Q1.out,R1.out];rfl,T.out⟩
 obtain⟨O,L,Q,I,W⟩:=BD X1.out rfl rfl rfl rfl rfl;obtain⟨R,J,U,N,M⟩:=BD Y1.out rfl rfl rfl rfl rfl;go_wp2_with fail;refine (Fi x.sels y.sels (by omega) a2 b2 c2 d2 w1 P (by omega) (E.to (AE.below T.out)) (D.to (AE.below T.out))).mono ?_;rintro r w2 ⟨rfl,hb⟩;have B2:=QA (T.out.trans (hb.mono T.out.size));have X2:Hid (w2.heap[w.heap.size]?=_):=QA ((hb.block _ (block_lt X1.out)).trans X1.out);have Y2:Hid (w2.heap[w.heap.size+1]?=_):=QA ((hb.block _ (block_lt Y1.out)).trans Y1.out);clear O L Q I W R J U N M;clear hb;obtain⟨r2,G⟩:∃q,q=Dq.sameL Dq.Sel.same x.sels y.sels:=⟨_,rfl⟩
 rw[← G];have R2:=QA G.symm;clear G;go_wp2_with fail;go_ret;exact⟨by rw[A.out,X.out,Q1.out,R1.out,R2.out];rfl,B2.out⟩
def P0 (x y:Dq.Doc):Prop:=∀(a1 a2 b1 b2:Option Addr) (c1 c2 d1 d2:Nat) (w:World) (P:Nat→Prop),Reads w P x.d [.slice a1 x.ops.length c1,.slice a2 x.frags.length c2]→Reads w P y.d [.slice b1 y.ops.length d1,.slice b2 y.frags.length d2] →
 Calls Tryz.prog 21 #[.agg #[.slice a1 x.ops.length c1,.slice a2 x.frags.length c2],.agg #[.slice b1 y.ops.length d1,.slice b2 y.frags.length d2]] w (λr w'=>r=.returned (.bool (Dq.Doc.same x y))∧Below w.heap.size w w')
theorem PM (x y:Dq.Doc) (hl:x.ops.length≤1000000000∧x.frags.length≤1000000000) (hO:∀z∈x.ops,∀y,ElO z y) (hF:∀z∈x.frags,∀y,ElF z y):P0 x y:=by
 intro a1 a2 b1 b2 c1 c2 d1 d2 w P hx hy;have W:=hx;have Q:=hy;obtain⟨R,O,f1,f2,ex,D,B⟩:=Dq.Doc.opened hx;obtain⟨rfl,rfl,rfl,rfl⟩:a1=R∧c1=f1∧a2=O∧c2=f2:=by simpa [and_assoc] using ex
 clear ex;obtain⟨R,O,f1,f2,ex,C,A⟩:=Dq.Doc.opened hy;obtain⟨rfl,rfl,rfl,rfl⟩:b1=R∧d1=f1∧b2=O∧d2=f2:=by simpa [and_assoc] using ex
 clear ex;have HO:=QA hO;have HF:=QA hF;obtain⟨ac,ag⟩:=hl;clear hO hF;obtain⟨H,o⟩:∃z,z=(w.alloc (.cells #[.slice a1 x.ops.length c1,.slice a2 x.frags.length c2] 43)).alloc (.cells #[.slice b1 y.ops.length d1,.slice b2 y.frags.length d2] 43):=⟨_,rfl⟩
 have M:Below w.heap.size w H:=by rw[o];exact ((Below.refl _ _).alloc (QM _) _).alloc (by simp) _
 have X:Hid (H.heap[w.heap.size]?=some (.cells #[.slice a1 x.ops.length c1,.slice a2 x.frags.length c2] 43 (0,0))):=by rw[o];exact QA (by rw[Lib.alloc_old _ _ _ (by simp)];exact AC _ _)
 have Y:Hid (H.heap[w.heap.size+1]?=some (.cells #[.slice b1 y.ops.length d1,.slice b2 y.frags.length d2] 43 (0,0))):=by
  rw[o];have:=AC (w.alloc (.cells #[.slice a1 x.ops.length c1,.slice a2 x.frags.length c2] 43)) (.cells #[.slice b1 y.ops.length d1,.slice b2 y.frags.length d2] 43);rw[show (w.alloc (.cells #[.slice a1 x.ops.length c1,.slice a2 x.frags.length c2] 43)).heap.size=w.heap.size+1 by simp]at this;exact QA this
 have af:H.heap.size=w.heap.size+2:=by rw[o];simp
 have N:=QA M;have T:=QA o;have E:Hid (Dq.Doc.same x y=(Dq.sameL Dq.Op.same x.ops y.ops&&(Dq.sameL Dq.Fr.same x.frags y.frags))):=QA (rfl);obtain⟨S,hS⟩:∃S,S=Dq.Doc.same x y:=⟨_,rfl⟩
 rw[← hS]at E ⊢;clear hx hy W Q M o hS;go_enter Tryz.func21,Tryz.ntmps21;go_wp2_with fail;rw[← T.out];refine (Pn x.ops y.ops HO.out a1 b1 c1 d1 H P (by omega) (D.to (AE.below N.out)) (C.to (AE.below N.out))).mono ?_;rintro r w1 ⟨rfl,hb⟩;have L:=QA (N.out.trans (hb.mono N.out.size));have V:Hid (w1.heap[w.heap.size]?=_):=QA ((hb.block _ (block_lt X.out)).trans X.out);have U:Hid (w1.heap[w.heap.size+1]?=_):=QA ((hb.block _ (block_lt Y.out)).trans Y.out);clear hb;obtain⟨r1,F⟩:∃q,q=Dq.sameL Dq.Op.same x.ops y.ops:=⟨_,rfl⟩
 rw[← F];have Z:=QA F.symm;clear F;cases r1
 ·go_wp2_with fail;go_ret;exact⟨by rw[E.out,Z.out];rfl,L.out⟩
 obtain⟨J,I⟩:=EY V.out rfl rfl;obtain⟨K,G⟩:=EY U.out rfl rfl;go_wp2_with fail;refine (P4 x.frags y.frags HF.out a2 b2 c2 d2 w1 P (by omega) (B.to (AE.below L.out)) (A.to (AE.below L.out))).mono ?_;rintro r w2 ⟨rfl,hb⟩;have B2:=QA (L.out.trans (hb.mono L.out.size));have X2:Hid (w2.heap[w.heap.size]?=_):=QA ((hb.block _ (block_lt V.out)).trans V.out);have Y2:Hid (w2.heap[w.heap.size+1]?=_):=QA ((hb.block _ (block_lt U.out)).trans U.out);clear J I K G;clear hb;obtain⟨r2,F⟩:∃q,q=Dq.sameL Dq.Fr.same x.frags y.frags:=⟨_,rfl⟩
 rw[← F];have R2:=QA F.symm;clear F;go_wp2_with fail;go_ret;exact⟨by rw[E.out,Z.out,R2.out];rfl,B2.out⟩
end Go.Proofs.YtefjgpkpplkkgaaGreatDoor
