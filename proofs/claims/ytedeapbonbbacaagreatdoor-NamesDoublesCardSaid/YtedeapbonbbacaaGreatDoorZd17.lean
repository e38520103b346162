/-
  Values in memory. Rows of texts compared, walked. The reader: Value, Arg at any depth; Args, walked. A row in a variable of a call's own, beside the reader. The reader of a text: New, walked. Texts as data; a block that is filled field by field. What stands while a part of a type is read; one element of a row. Documents as data in memory; a block that is filled field by field, its data beside it. The reader of documents: directives, but, walked. The reader of documents: variable, walked.
-/
import Derived.Test.YtedeapbonbbacaaGreatDoorZd16
import Derived.Test.YtedeapbonbbacaaGreatDoorZd3
import Derived.Test.YtedeapbonbbacaaGreatDoorZd15
import Derived.Test.YtedeapbonbbacaaGreatDoorZd7
import Derived.Deep.LoopGhost
import Derived.Test.YtedeapbonbbacaaGreatDoorZd4
open Go.Lib renaming hid → QA
open List renaming mem_singleton → QB, length_append → QS, length_map → QV, getElem?_eq_getElem → ZH, eq_nil_of_length_eq_zero → ZX, mem_cons → ZY
open Nat renaming le_refl → QM, le_trans → QQ, reduceAdd → QW
namespace Go.Proofs.YtedeapbonbbacaaGreatDoor
set_option maxRecDepth 100000
set_option maxHeartbeats 4000000
set_option linter.unusedSimpArgs false
set_option linter.unusedVariables false
open Go Go.RowKit
namespace Vl
mutual
def Z.d:Z→D
 | .mk k t items fields a=>.obj [.int k,.str t,.seq 5 (Z.dl items),.seq 7 (ZA.dl fields),.int a]
def Z.dl:List Z→List D
 | []=>[]
 | x::r=>Z.d x::Z.dl r
def ZA.d:ZA→D
 | .mk n v a=>.obj [.str n,Z.d v,.int a]
def ZA.dl:List ZA→List D
 | []=>[]
 | x::r=>ZA.d x::ZA.dl r
end
theorem Z.dl_map:∀l:List Z,Z.dl l=l.map Z.d
 | []=>by rw[Z.dl];rfl
 | x::r=>by rw[Z.dl,Z.dl_map r];rfl
theorem ZA.dl_map:∀l:List ZA,ZA.dl l=l.map ZA.d
 | []=>by rw[ZA.dl];rfl
 | x::r=>by rw[ZA.dl,ZA.dl_map r];rfl
end Vl
section
variable {w : World} {P : Nat → Prop}
theorem Reads.el {k:Nat} {xs:List D} {a:Option Addr} {n c:Nat} (h:Reads w P (.seq k xs) [.slice a n c]):∀(j:Nat) d,xs[j]?=some d→∃g o cs,a=some ⟨g,o,none⟩∧P g∧g<w.heap.size∧cs.length=k ∧
  (∀(q:Nat) v,cs[q]?=some v→w.cell? ⟨g,o+j*k+q,none⟩=some v)∧Reads w P d cs:=by
 obtain⟨C,A,e,B⟩:=h.seq_inv;obtain⟨rfl,rfl,rfl⟩:a=C∧n=xs.length∧c=A:=by simpa using e
 intro j d hj;have:=B.at j d hj;rw[Nat.zero_add]at this;exact this
theorem Kk {v:Vl.Z} {cs:List Value} (h:Reads w P v.d cs):∃(a1 a2:Option Addr) (c1 c2:Nat),cs=[.int .i64 v.kind,.string ⟨v.text.toArray⟩,.slice a1 v.items.length c1,.slice a2 v.fields.length c2,.int .i64 v.at_] ∧
  Reads w P (.seq 5 (v.items.map Vl.Z.d)) [.slice a1 v.items.length c1]∧Reads w P (.seq 7 (v.fields.map Vl.ZA.d)) [.slice a2 v.fields.length c2]:=by
 cases v with
 | mk k t is fs a =>
  unfold Vl.Z.d at h;rw[Vl.Z.dl_map,Vl.ZA.dl_map]at h;obtain⟨S,V,rfl,B,H⟩:=h.obj_inv.cons_inv;obtain⟨Q,M,rfl,I,J⟩:=H.cons_inv;obtain⟨L,U,rfl,o,K⟩:=J.cons_inv;obtain⟨N,O,rfl,A,D⟩:=K.cons_inv;obtain⟨R,T,rfl,G,F⟩:=D.cons_inv;obtain rfl:=B.int_inv;obtain rfl:=I.str_inv;obtain⟨b3,C,rfl,_⟩:=o.seq_inv;obtain⟨b4,E,rfl,_⟩:=A.seq_inv;obtain rfl:=G.int_inv;obtain rfl:=F.nil_inv;simp only[QV]at o A ⊢;exact⟨b3,b4,C,E,rfl,o,A⟩
end
def Kp (z:Vl.Z) (a1 a2:Option Addr) (n1 n2:Nat):Array Value:=#[.int .i64 z.kind,.string ⟨z.text.toArray⟩,.slice a1 z.items.length n1,.slice a2 z.fields.length n2,.int .i64 z.at_]
theorem Jl:(Tryz.prog.info? 9).map (λi=>(i.zero,i.size,i.bytes))=some (some (.string ⟨#[]⟩),1,16):=by kernel_rfl
def strCells (l:List (List UInt8)):List Value:=l.map λs=>.string ⟨s.toArray⟩
theorem F4 {w:World} {base n:Nat} {v:Value} {ls:List (List UInt8)} (h:w.ownsRow base 9 1 v n (strCells ls)) (hn:ls.length=n):BE w v ls:=by
 subst hn;rcases Nat.eq_zero_or_pos ls.length with h0|h0
 ·rcases h.2 with⟨h4,h5⟩|⟨g,cap,cur,hv,hg,hc,h6⟩
  ·have:ls=[]:=ZX h0;subst this;exact⟨none,0,h4,λi s hi=>by simp at hi⟩
  ·refine⟨_,_,hv,λi s hi=>?_⟩;have:ls=[]:=ZX h0;subst this;simp at hi
 ·obtain⟨g,c,rfl,-,o⟩:=Au h h0;refine⟨_,_,rfl,λi s hi=>⟨g,0,rfl,o,?_⟩⟩;have:=AG h i (.string ⟨s.toArray⟩) (by unfold strCells;rw[List.getElem?_map,hi];rfl);rw[Nat.zero_add];exact this
theorem IV (w:World) (va vb:Value) (la lb:List (List UInt8)) (ha:BE w va la) (hb:BE w vb lb) (hl:la.length≤1000000) :
  Calls Tryz.prog 10 #[va,vb] w λr w'=>r=.returned (.bool (decide (la=lb)))∧∃n,w'=w.drewN n:=by
 obtain⟨X,U,rfl⟩:=ha.form;obtain⟨Y,cb,rfl⟩:=hb.form;have R:=QA ha;have P:=QA hb;clear ha hb;go_enter Tryz.func10,Tryz.ntmps10;by_cases hle:la.length=lb.length
 ·have N:((la.length:Int) != (lb.length:Int))=false:=neF (by omega);have o:=QA hle;have O:lb.length≤1000000:=by omega
  clear hle;go_wp2_with fail
  go_loopg [13] (la.length+1) (λk i wr=>∃j n,k=la.length+1-j∧j≤la.length∧i=.int .i64 j∧la.take j=lb.take j∧wr=w.drewN n)
  case atStart=>exact⟨0,0,rfl,Nat.zero_le _,rfl,by simp,rfl⟩
  case round =>
   obtain⟨j,n,H,V,rfl,C,rfl⟩:=hrel;have T:=QA H;have M:=QA C;clear H C;by_cases hjl:j<la.length
   ·have Q:decide (j<la.length)=true:=decide_eq_true hjl;have B:j<lb.length:=by have:=o.out;omega
    obtain⟨x,hx⟩:∃z,la[j]?=some z:=⟨la[j],ZH hjl⟩
    obtain⟨y,E⟩:∃z,lb[j]?=some z:=⟨lb[j],ZH B⟩
    obtain⟨b1,Z,rfl,-,k1⟩:=R.out.at hx;obtain⟨b2,o2,rfl,-,W⟩:=P.out.at E;have K:=QA hx;have J:=QA E;clear hx E;go_wp2_with fail;refine AO [] (by kernel_rfl) (by kernel_rfl) ?_;simp only[BN,List.take_succ_cons,List.take_zero,List.drop_succ_cons,List.drop_zero,Nat.sub_zero,Nat.reduceSub,QW]
    repeat (go_big_quiet_step (fail))
    refine wpQuiet_nil ?_;rintro _ ⟨nq,rfl⟩;obtain⟨q,G⟩:∃q,q=(!(x==y)):=⟨_,rfl⟩
    rw[← G];have L:=QA G;clear G;cases q
    ·have D:Hid (x=y):=QA (by have:=L.out;simpa using this);go_wp2_with fail;go_roundg (la.length+1-(j+1))
     case measure=>rw[T.out];omega
     case rel =>
      have e:la.take (j+1)=lb.take (j+1):=by rw[List.take_add_one,List.take_add_one,K.out,J.out,M.out,D.out]
      exact⟨j+1,n+nq,rfl,hjl,by go_num,e,by simp[World.drewN,Nat.add_assoc]⟩
    ·have S:Hid (¬la=lb):=QA (λh=>(show ¬x=y by have:=L.out;simpa using this) (by have A:=K.out;rw[h,J.out]at A;exact (Option.some.inj A).symm));go_wp2_with fail;go_ret;exact⟨by rw[decide_eq_false S.out];rfl,n+nq,by simp[World.drewN,Nat.add_assoc]⟩
   ·have Q:decide (j<la.length)=false:=decide_eq_false hjl;have I:la=lb:=by
     have A:=M.out;rw[show j=la.length by omega,List.take_length]at A;rw[o.out,List.take_length]at A;exact A
    have F:=QA I;clear I;go_wp2_with fail;go_ret;exact⟨by rw[decide_eq_true F.out];rfl,_,rfl⟩
 ·have N:((la.length:Int) != (lb.length:Int))=true:=neT (by omega);have o:=QA hle;clear hle;go_wp2_with fail;go_ret;exact⟨by rw[decide_eq_false (λh=>o.out (by rw[h]))];rfl,0,rfl⟩
theorem Ch (b g:Nat) (fixed:Bool):∀(n:Nat),n≤1600→∀(s:Rd.St) (w:World),AL w b g s→s.rest.length≤n→0≤s.deep∧s.deep+n≤900000 →
  Calls Tryz.prog 68 #[.pointer (some ⟨b,0,none⟩),.bool fixed] w (Got b g w (Rd.value fixed (n+1) s).2.d (Rd.value fixed (n+1) s).1)
 | 0,hnb,s,w,h,hn,hd=>DX b g fixed 0 s w h hn hnb hd (λm hm=>absurd hm (by omega))
 | n+1,hnb,s,w,h,hn,hd=>DX b g fixed (n+1) s w h hn hnb hd (λm hm s' w' h' hn' hd'=>by
  obtain rfl:n=m:=by omega
  exact Ch b g fixed n (by omega) s' w' h' hn' hd')
theorem Gw (b g:Nat) (fixed:Bool) (n:Nat) (hnb:n≤1600) (s:Rd.St) (w:World) (h:AL w b g s) (hn:s.rest.length≤n) (hd:0≤s.deep∧s.deep+n≤900000) :
  Calls Tryz.prog 93 #[.pointer (some ⟨b,0,none⟩),.bool fixed] w (Got b g w (Rd.arg fixed (n+1) s).2.d (Rd.arg fixed (n+1) s).1) :=
 Fj b g fixed (n+1) s w h (λw' hr'=>Ch b g fixed n hnb _ w' hr' (QQ ((Rd.ok_name s).trans (Rd.ok_want Rd.colon _)).len hn) (by rw[Rd.want_deep,Rd.name_deep];exact hd))
def I9 (b g:Nat) (w:World) (k:Nat) (ds:List D) (s:Rd.St) (r:Ending) (w':World):Prop :=
 ∃(a:Option Addr) (c:Nat),r=.returned (.slice a ds.length c)∧Reads w' (λx=>w.heap.size≤x) (.seq k ds) [.slice a ds.length c]∧AL w' b g s∧Fr b w w'
def abx (w0:World) (b:Nat) (fixed:Bool):List Box :=
 [(w0.heap.size,.cells #[.pointer (some ⟨b,0,none⟩)] 97 (0,0)),(w0.heap.size+1,.cells #[.bool fixed] 4 (0,0))]
def ALI (w0:World) (b g:Nat) (fixed:Bool) (m:Nat) (d1:Int) (s:Rd.St) (out:List Rd.A) (w:World):Prop :=
 LI w0 b g (w0.heap.size+1+1) (abx w0 b fixed) 30 BA 151 7 s (out.map Rd.A.d) w∧s.deep=d1∧s.rest.length≤m∧(s.err=0→out.length+s.rest.length≤1602)∧out.length≤1603
theorem Ii (cap:Array Value) (w:World):Sem.run Tryz.prog (callFunc 92 cap) w=.ok (.enter 92 cap) w:=by kernel_rfl
theorem Cc (b g:Nat) (fixed:Bool) (n:Nat) (hnb:n≤1600) (s:Rd.St) (w:World) (h:AL w b g s) (hn:s.rest.length≤n) (hd:0≤s.deep∧s.deep+n≤900000) :
  Calls Tryz.prog 62 #[.pointer (some ⟨b,0,none⟩),.bool fixed] w (I9 b g w 7 ((Rd.args fixed (n+1) s).2.map Rd.A.d) (Rd.args fixed (n+1) s).1):=by
 have I:=h.lt;have H:=QA h;have HN:=QA hn;obtain⟨d0,d1⟩:=hd;clear h hn;have D:LI w b g (w.heap.size+1+1) (abx w b fixed) 30 BA 151 7 s [] (((w.alloc (.cells #[.pointer (some ⟨b,0,none⟩)] 97)).alloc (.cells #[.bool fixed] 4)).alloc (.cells #[.slice none 0 0] 30)):=by
  have S:Below w.heap.size w (((w.alloc (.cells #[.pointer (some ⟨b,0,none⟩)] 97)).alloc (.cells #[.bool fixed] 4)).alloc (.cells #[.slice none 0 0] 30)) :=
   (((Below.refl _ _).alloc (QM _) _).alloc (by simp) _).alloc (by simp;omega) _
  refine⟨H.out.below S,λp hp=>?_,⟨.slice none 0 0,?_,AY.nil _ _ _ _ _⟩,But.of_below S,I.1,I.2,λp hp=>?_,by omega⟩
  ·unfold abx at hp;simp only[ZY,List.not_mem_nil,or_false]at hp;rcases hp with rfl|rfl
   ·show (((w.alloc _).alloc _).alloc _).heap[w.heap.size]?=_;rw[Lib.alloc_old _ _ _ (by simp;omega),Lib.alloc_old _ _ _ (by simp)];exact AC _ _
   ·show (((w.alloc _).alloc _).alloc _).heap[w.heap.size+1]?=_;rw[Lib.alloc_old _ _ _ (by simp)];have:=AC (w.alloc (.cells #[.pointer (some ⟨b,0,none⟩)] 97)) (.cells #[.bool fixed] 4)
    simpa using this
  ·have:=AC ((w.alloc (.cells #[.pointer (some ⟨b,0,none⟩)] 97)).alloc (.cells #[.bool fixed] 4)) (.cells #[.slice none 0 0] 30);rw[show ((w.alloc (.cells #[.pointer (some ⟨b,0,none⟩)] 97)).alloc (.cells #[.bool fixed] 4)).heap.size=w.heap.size+1+1 by simp]at this;exact this
  ·unfold abx at hp;simp only[ZY,List.not_mem_nil,or_false]at hp;rcases hp with rfl|rfl<;>(simp only;omega)
 have K:=QA D;have O:=D.cellx (t:=w.heap.size) (v:=.pointer (some ⟨b,0,none⟩)) (T:=97) (by simp[abx]);clear D;go_enter Tryz.func62,Tryz.ntmps62;go_wp2_with fail;refine (BC b g s Rd.lpar _ K.out.rd).mono ?_;rintro r w1 ⟨rfl,h1,f1⟩;have o:=QA (K.out.step h1 f1);clear h1 f1 O;obtain⟨B,hB⟩:∃B,B=Rd.isS s Rd.lpar:=⟨_,rfl⟩
 have Q:=QA hB;rw[← hB];clear hB;cases B
 ·have HE:Hid (Rd.args fixed (n+1) s=(s,[])):=by
   unfold Rd.args;rw[if_neg (by rw[← Q.out];simp)];exact QA rfl
  have HT:Hid (Rd.take Rd.lpar s=s):=by
   unfold Rd.take;rw[if_neg (by rw[← Q.out];simp)];exact QA rfl
  obtain⟨v,X,E⟩:=o.out.ex;obtain⟨J,W,rfl⟩:=E.form;have k3:=AA X 0 (.slice J 0 W) rfl;have Y:=QA E;clear X E;go_wp2_with fail;go_ret;rw[HE.out];refine⟨J,W,rfl,?_,by have:=o.out.rd;rw[HT.out]at this;exact this,o.out.fr⟩;exact Y.out.reads.to (AD.sub w1 (λx _ hp=>by
   rcases hp with hp|hp
   ·have:=hp.1;show w.heap.size≤x;omega
   ·have:=QQ (BM _ _) (Y.out.lt x hp).1;show w.heap.size≤x;omega))
 ·have HT:Hid (Rd.take Rd.lpar s=Rd.next s):=by
   unfold Rd.take;rw[if_pos Q.out.symm];exact QA rfl
  have HE:Hid (Rd.args fixed (n+1) s=(Rd.want Rd.rpar (Rd.loop1 Rd.rpar (Rd.arg fixed (n+1)) (n+1) (Rd.next s)).1,(Rd.loop1 Rd.rpar (Rd.arg fixed (n+1)) (n+1) (Rd.next s)).2)):=by
   unfold Rd.args;rw[if_pos Q.out.symm];exact QA rfl
  have V:Hid (LI w b g (w.heap.size+1+1) (abx w b fixed) 30 BA 151 7 (Rd.next s) [] w1):=by rw[← HT.out];exact o
  have U:=QA (Rd.next_sign Q.out.symm);have R:Hid (∀(s1:Rd.St) (out:List Rd.A) (w1:World),LI w b g (w.heap.size+1+1) (abx w b fixed) 30 BA 151 7 s1 (out.map Rd.A.d) w1→s1.rest.length≤n→s1.deep=s.deep→out.length≤1000000 →
    Calls Tryz.prog 92 #[.pointer (some ⟨w.heap.size+1+1,0,none⟩),.pointer (some ⟨w.heap.size,0,none⟩),.pointer (some ⟨w.heap.size+1,0,none⟩)] w1 λr w'=>r=.returned (.tuple #[]) ∧
     LI w b g (w.heap.size+1+1) (abx w b fixed) 30 BA 151 7 (Rd.arg fixed (n+1) s1).1 ((out++[(Rd.arg fixed (n+1) s1).2]).map Rd.A.d) w') :=
   QA λs1 out w1 hl hr hdp ho=>by
    rw[List.map_append];exact IE w b g (w.heap.size+1+1) (abx w b fixed) w.heap.size (w.heap.size+1) fixed (n+1) (by simp[abx]) (by simp[abx]) s1 (out.map Rd.A.d) w1
     (λw2 hr2=>Gw b g fixed n hnb s1 w2 hr2 hr (by rw[hdp];omega)) hl (by rw[QV];exact ho)
  have P:Hid (∀s,(Rd.arg fixed (n+1) s).1.deep=s.deep):=QA (Rd.argOf_deep _ (Rd.value_deep fixed (n+1)));have M:Hid (∀s,Rd.Ok s (Rd.arg fixed (n+1) s).1):=QA (Rd.ok_argOf _ (Rd.ok_value fixed (n+1)));have N:=QA (Rd.next_deep s);have G:=QA (λs1 he=>Rd.arg_goes fixed (n+1) s1 he);have af:(Rd.next s).rest.length+1≤n:=by have:=U.out.1;have:=HN.out;omega
  have O:w1.cell? ⟨w.heap.size,0,none⟩=some (.pointer (some ⟨b,0,none⟩)):=V.out.cellx (T:=97) (by simp[abx]);go_wp2_with fail;refine (Cd Rd.rpar (Rd.arg fixed (n+1)) (ALI w b g fixed n s.deep) b g _ _ (Ii _) (λs out w' h=>h.1.rd) (λs out w1 w2 h hb=>⟨h.1.below hb,h.2⟩) (λs1 out w2 h he=>?_) (λs1 out w2 h he _=>G.out s1 he) (n+1) (Rd.next s) w1 ?_ ?_).mono ?_
  ·refine (R.out s1 out w2 h.1 h.2.2.1 h.2.1 (by have:=h.2.2.2.2;omega)).mono ?_;rintro r w3 ⟨hre,hli⟩;refine⟨hre,hli,by rw[P.out];exact h.2.1,QQ (M.out s1).len h.2.2.1,λhe2=>?_,by have:=h.2.2.2.1 he;rw[QS];simp;omega⟩;rcases G.out s1 he with hx|hx
   ·exact absurd he2 hx
   ·have:=h.2.2.2.1 he;rw[QS];simp;omega
  ·refine (R.out (Rd.next s) [] w1 V.out (by omega) N.out (by simp)).mono ?_;rintro r w3 ⟨hre,hli⟩;have ae:=(M.out (Rd.next s)).len;exact⟨hre,hli,by rw[P.out];exact N.out,by omega,λ_=>by simp;omega,by simp⟩
  ·rcases G.out (Rd.next s) U.out.2 with hx|hx
   ·exact .inl hx
   ·exact .inr (by omega)
  rintro r w5 ⟨rfl,hL⟩;obtain⟨L,F⟩:∃x,x=Rd.loop1 Rd.rpar (Rd.arg fixed (n+1)) (n+1) (Rd.next s):=⟨_,rfl⟩
  rw[← F]at hL;have aa:=QA F;have Z:=QA hL;clear O F hL;have O:w5.cell? ⟨w.heap.size,0,none⟩=some (.pointer (some ⟨b,0,none⟩)):=Z.out.1.cellx (T:=97) (by simp[abx]);go_wp2_with fail;refine (BD b g L.1 Rd.rpar w5 Z.out.1.rd).mono ?_;rintro r w6 ⟨rfl,h6,f6⟩;have C:=QA (Z.out.1.step h6 f6);obtain⟨v,X,E⟩:=C.out.ex;obtain⟨J,W,rfl⟩:=E.form;have k3:=AA X 0 (.slice J (L.2.map Rd.A.d).length W) rfl;have Y:=QA E;clear X E h6 f6 O;go_wp2_with fail;go_ret;rw[HE.out,← aa.out];refine⟨J,W,by simp,?_,C.out.rd,C.out.fr⟩;exact Y.out.reads.to (AD.sub w6 (λx _ hp=>by
   rcases hp with hp|hp
   ·have:=hp.1;show w.heap.size≤x;omega
   ·have:=QQ (BM _ _) (Y.out.lt x hp).1;show w.heap.size≤x;omega))
structure GI (w0:World) (b g:Nat) (E:TypeId) (k:Nat) (s:Rd.St) (v:Value) (ds:List D) (w:World):Prop where
 rd:AL w b g s
 row:AY w (λx=>w0.heap.size≤x∧v.ownBlock≠some x) w0.heap.size E k v ds
 fr:Fr b w0 w
 lb:b<w0.heap.size
 lg:g<w0.heap.size
section
variable {w0 w w' w8 : World} {b g k : Nat} {E : TypeId} {s s' : Rd.St} {v v' : Value} {ds : List D} {d : D} {cs xs : List Value}
theorem GI.nil (h:AL w b g s) (E:TypeId) (k:Nat):GI w b g E k s (.slice none 0 0) [] w :=
 ⟨h,AY.nil _ _ _ _ _,But.refl _ _,h.lt.1,h.lt.2⟩
theorem GI.step (h:GI w0 b g E k s v ds w) (hr:AL w' b g s') (hf:Fr b w w'):GI w0 b g E k s' v ds w':=by
 have lb:=h.lb;have o:=h.fr.size;exact⟨hr,h.row.to ⟨hf.size,λx hx hp=>⟨hp,hf.block x hx (by omega)⟩⟩ (λx hx=>⟨λhp=>hp.2 hx,hf.block x (h.row.lt x hx).2 (by have:=(h.row.lt x hx).1;omega)⟩),h.fr.trans hf,h.lb,h.lg⟩
theorem GI.below (h:GI w0 b g E k s v ds w) (hb:Below w.heap.size w w'):GI w0 b g E k s v ds w':=h.step (h.rd.below hb) (But.of_below hb)
theorem GI.more (h:GI w0 b g E k s v ds w) (hx:w.ownsRow w0.heap.size E k v ds.length xs) (hR:Ab w (λx=>w0.heap.size≤x∧v.ownBlock≠some x) k ds xs) (hd:Reads w (λx=>w0.heap.size≤x∧v.ownBlock≠some x) d cs)
  (hlen:cs.length=k) (hg:w.grownBy w8 v.ownBlock) (hloc:v'.ownBlock=v.ownBlock∨v'.ownBlock=some w.heap.size) (hrow:w8.ownsRow w0.heap.size E k v' (ds.length+1) (xs++cs)):GI w0 b g E k s v' (ds++[d]) w8:=by
 have lb:=h.lb;have lg:=h.lg;have C:=hx.lt;have B:∀x,x<w.heap.size→v.ownBlock≠some x→w8.heap[x]?=w.heap[x]?:=λx hx3 hn=>hg.block x hx3 (λe=>hn e.symm)
 have o:∀x,x<w0.heap.size→v.ownBlock≠some x:=λx hx2 e=>by have:=C x e;omega
 have A:AD w (λx=>w0.heap.size≤x∧v.ownBlock≠some x) w8 (λx=>w0.heap.size≤x∧v'.ownBlock≠some x):=⟨hg.size,λx hx2 hp=>⟨⟨hp.1,λe=>by
  rcases hloc with e2|e2
  ·exact hp.2 (by rw[← e2];exact e)
  ·rw[e2]at e;simp only[Option.some.injEq]at e;omega⟩,B x hx2 hp.2⟩⟩
 refine⟨h.rd.to hg.size (B b h.rd.lt.1 (o b lb)) (B g h.rd.lt.2 (o g lg)),⟨⟨xs++cs,?_,(hR.to A).snoc (hd.to A) hlen⟩,λx e hp=>hp.2 e⟩,⟨hg.os.trans h.fr.os,hg.tape.trans h.fr.tape,hg.output.trans h.fr.output,QQ h.fr.size hg.size,λx hx3 hxb=>by rw[B x (Nat.lt_of_lt_of_le hx3 h.fr.size) (o x hx3)];exact h.fr.block x hx3 hxb⟩,lb,lg⟩;rw[QS];exact hrow
theorem GI.reads (h:GI w0 b g E k s v ds w):Reads w (λx=>w0.heap.size≤x) (.seq k ds) [v] :=
 h.row.reads.to (AD.sub w (λx _ hp=>by
  rcases hp with hp|hp
  ·exact hp.1
  ·exact (h.row.lt x hp).1))
theorem GI.data (h:GI w0 b g E k s v ds w) (hd:Reads w' (λx=>w.heap.size≤x) d cs):Reads w' (λx=>w0.heap.size≤x∧v.ownBlock≠some x) d cs :=
 hd.to (AD.sub w' (λx _ hp=>⟨QQ h.fr.size hp,λe=>by have A:=(h.row.lt x e).2;have o:w.heap.size≤x:=hp;omega⟩))
end
theorem Ci {s:ByteArray}:∀{ts:List Lx.Tok} {p q:Nat},CF s p ts q→∀t∈ts,t.kind≤5∧1≤t.kind∧t.at_<s.size
 | [],_,_,_,t,ht=>by simp at ht
 | x::ts,p,q,h,t,ht=>by
  rcases ZY.1 ht with rfl|ht
  ·exact⟨h.1.k5,h.1.k1,h.1.hi⟩
  ·exact Ci h.2 t ht
theorem Jf {l:List UInt8} {ts:List Lx.Tok} (h:Lx.lex l=.ok ts):l.length≤4096:=by
 unfold Lx.lex at h;split at h
 ·cases h
 ·omega
theorem Jy {s:ByteArray} {ts:List Lx.Tok} (h:Lx.lex s.data.toList=.ok ts) (hs:Std s ts):JI ts∧0<ts.length:=by
 have E:s.size≤4096:=Jf h;obtain⟨o,rfl,B⟩:=hs.chain;have F:∀t∈o,t.text.length≤1000000000:=by
  have D:=h;unfold Lx.lex at D;rw[if_neg (by have:s.data.toList.length=s.size:=rfl;omega)]at D;obtain⟨A,e,G⟩:=Lx.lexGo_good _ _ _ _ _ (by have:s.data.toList.length=s.size:=rfl;omega) D;rw[List.nil_append]at e;have:o=A:=(List.append_inj_left' e rfl)
  subst this;exact λt ht=>(G t ht).2
 have C:∀t∈o++[(⟨0,[],s.size⟩:Lx.Tok)],t∈o∨t=⟨0,[],s.size⟩:=λt ht=>by simpa using ht
 refine⟨⟨hs.len,λt ht=>?_,λt ht=>?_,λt ht=>?_,λt ht=>?_⟩,by simp⟩
 ·rw[QS,List.length_singleton,Nat.add_sub_cancel,List.getElem?_append_right (QM _),Nat.sub_self]at ht;simp at ht;rw[← ht]
 ·rcases C t ht with h|rfl
  ·exact (Ci B t h).1
  ·simp
 ·rcases C t ht with h|rfl
  ·exact F t h
  ·simp
 ·rcases C t ht with h|rfl
  ·have:=(Ci B t h).2.2;omega
  ·exact E
def Gc (l:List UInt8):Prop:=∀ts,Lx.lex l=.ok ts→Std ⟨l.toArray⟩ ts
def FY (l:List UInt8) (w:World) (r:Ending) (w':World):Prop :=
 Below w.heap.size w w'∧Gc l∧∃(g cap:Nat) (ts:List Lx.Tok) (a e:Nat),r=.returned (.agg #[.slice (some ⟨g,0,none⟩) ts.length cap,.int .i64 0,.int .i64 0,.int .i64 a,.int .i64 e])∧w.heap.size≤g∧BH w' g ts∧JI ts∧0<ts.length ∧
  Rd.begin_ l=⟨ts,0,a,e⟩
theorem FY.rdAt {l:List UInt8} {w:World} {b g cap:Nat} {ts:List Lx.Tok} {a e:Nat} {T:TypeId} (hb:w.heap[b]?=some (.cells #[.slice (some ⟨g,0,none⟩) ts.length cap,.int .i64 0,.int .i64 0,.int .i64 a,.int .i64 e] T (0,0)))
  (hr:BH w g ts) (hne:g≠b) (hok:JI ts) (hpos:0<ts.length) (hbg:Rd.begin_ l=⟨ts,0,a,e⟩):AL w b g (Rd.begin_ l):=by
 rw[hbg];exact⟨⟨T,cap,ts,0,hb,hr,rfl,hpos,hok⟩,hne⟩
theorem Ep {w w1:World} (hb:Below w.heap.size w w1) (cs:List Value):Below w.heap.size w (putCells w1 w.heap.size 0 cs):=by
 have o:=Aj w.heap.size cs 0 w1;exact⟨o.1.trans hb.os,o.2.1.trans hb.tape,o.2.2.trans hb.output,by rw[AU];exact hb.size,λk hk=>by rw[AW _ _ (by omega)];exact hb.block k hk⟩
theorem Hk {w1:World} {g x:Nat} {ts:List Lx.Tok} (h:BH w1 g ts) (hne:g≠x) (cs:List Value):BH (putCells w1 x 0 cs) g ts :=
 h.heap (by rw[AU];exact QM _) (AW _ _ hne _ _ _)
theorem row_one (w:World) (T:TypeId):BH (w.alloc (.cells #[.int .i64 0,.string ⟨#[]⟩,.int .i64 0] T)) w.heap.size [⟨0,[],0⟩]:=by
 refine⟨by simp,λi t ht=>?_,λi t ht=>?_,λi t ht=>?_⟩ <;>
 ·have hi:i=0:=by have:=(List.getElem?_eq_some_iff.1 ht).1;simp at this;omega
  subst hi;simp at ht;subst ht;exact AK _ _ _ _ _ _ rfl
theorem JS:JI [(⟨0,[],0⟩:Lx.Tok)]:=⟨by simp,λt ht=>by simp at ht;rw[← ht],λt ht=>by simp at ht;subst ht;simp,λt ht=>by simp at ht;subst ht;simp,λt ht=>by simp at ht;subst ht;simp⟩
theorem Ix (s:ByteArray) (w:World) (hs:s.size≤9223372036854775807) (hE:Env w) (h3:3≤w.heap.size) :
  Calls Tryz.prog 19 #[.string s] w (FY s.data.toList w):=by
 have HE:=QA hE;have B:Below w.heap.size w (w.alloc (.cells #[.slice none 0 0,.int .i64 0,.int .i64 0,.int .i64 0,.int .i64 0] 65)):=(Below.refl _ _).alloc (QM _) _;have L:=QA B;have af:=B.size;clear hE;go_enter Tryz.func19,Tryz.ntmps19;go_wp2_with fail;refine (KP s _ hs (HE.out.below B) (by omega)).mono ?_;rintro r w1 ⟨hb1,hres⟩;clear B;have D:=QA (L.out.trans (hb1.mono L.out.size));have J:Hid (w1.heap[w.heap.size]?=some (.cells #[.slice none 0 0,.int .i64 0,.int .i64 0,.int .i64 0,.int .i64 0] 65 (0,0))):=QA (by rw[hb1.block w.heap.size (by simp)];exact AC _ _);have P:=QA hb1.size;clear hb1;obtain⟨W,V,U,T,X⟩:=LK J.out rfl rfl rfl rfl rfl;have f0:=AE J.out 0;have f1:=AE J.out 1;have f2:=AE J.out 2;have f3:=AE J.out 3;have f4:=AE J.out 4;rcases hres with⟨ts,v,hlx,rfl,ht,hstd⟩|⟨a,c,hlx,rfl,hc⟩
 ·obtain⟨Q,H⟩:=Jy hlx hstd;obtain⟨g,E,rfl,hg,F⟩:=ht.openRow H;have N:Hid (Gc s.data.toList):=QA λts' h'=>by
   rw[hlx]at h';obtain rfl:=Lx.Res.ok.inj h';exact hstd
  have Y:=QA Q;have C:=QA hlx;have S:=QA F;have R:=QA hg;clear Q hlx F ht hstd hg;have A:g≠w.heap.size:=by have:=R.out;simp at this;omega
  have I:=QA (Ep D.out [.slice (some ⟨g,0,none⟩) ts.length E,.int .i64 0,.int .i64 0,.int .i64 0,.int .i64 0]);have K:=QA (Hk S.out A [.slice (some ⟨g,0,none⟩) ts.length E,.int .i64 0,.int .i64 0,.int .i64 0,.int .i64 0]);go_wp2_with fail;have O:=I.out;have M:=K.out;simp only[putCells,QW,Nat.zero_add]at O M;refine bodyPost_ret (v:=.agg #[.slice (some ⟨g,0,none⟩) ts.length E,.int .i64 0,.int .i64 0,.int .i64 0,.int .i64 0]) (by simp[results,Tryz.results19,go_sem,W,V,U,T,X]) rfl ?_;exact⟨O,N.out,g,E,ts,0,0,rfl,by have:=R.out;simp at this;omega,M,Y.out,H,by unfold Rd.begin_;rw[C.out]⟩
 ·have ad:((c:Int) != 0)=true:=neT (by omega);have G:Below w1.heap.size w1 (w1.alloc (.cells #[.int .i64 0,.string ⟨#[]⟩,.int .i64 0] 70)):=(Below.refl _ _).alloc (QM _) _;have I:=QA (Ep (D.out.trans (G.mono D.out.size)) [.slice (some ⟨w1.heap.size,0,none⟩) 1 1,.int .i64 0,.int .i64 0,.int .i64 a,.int .i64 c]);have A:w1.heap.size≠w.heap.size:=by have:=P.out;simp at this;omega
  have n1:¬w1.heap.size=w.heap.size:=A;have n2:¬w.heap.size=w1.heap.size:=λe=>A e.symm
  have K:=QA (Hk (row_one w1 70) A [.slice (some ⟨w1.heap.size,0,none⟩) 1 1,.int .i64 0,.int .i64 0,.int .i64 a,.int .i64 c]);have C:=QA hlx;have Z:=QA D.out.size;have o:Hid ((w1.alloc (.cells #[.int .i64 0,.string ⟨#[]⟩,.int .i64 0] 70)).heap[w.heap.size]?=some (.cells #[.slice none 0 0,.int .i64 0,.int .i64 0,.int .i64 0,.int .i64 0] 65 (0,0))):=QA (by
   rw[Lib.alloc_old _ _ _ (by have:=P.out;simp at this;omega)];exact J.out)
  clear G hlx W V U T X f0 f1 f2 f3 f4;obtain⟨W,V,U,T,X⟩:=LK o.out rfl rfl rfl rfl rfl;have f0:=AE o.out 0;have f1:=AE o.out 1;have f2:=AE o.out 2;have f3:=AE o.out 3;have f4:=AE o.out 4;go_wp2_with fail;have O:=I.out;have M:=K.out;simp only[putCells,QW,Nat.zero_add]at O M;refine bodyPost_ret (v:=.agg #[.slice (some ⟨w1.heap.size,0,none⟩) 1 1,.int .i64 0,.int .i64 0,.int .i64 a,.int .i64 c]) (by simp[results,Tryz.results19,go_sem,W,V,U,T,X]) rfl ?_;exact⟨O,(λts' h'=>by rw[C.out]at h';cases h'),w1.heap.size,1,[⟨0,[],0⟩],a,c,rfl,Z.out,M,JS,by simp,by unfold Rd.begin_;rw[C.out]⟩
def sds (l:List (List UInt8)):List D:=l.map D.str
structure BI (w0:World) (b g t6:Nat) (bx:List Box) (T6:TypeId) (c6:Array Value) (s:Rd.St) (w:World):Prop where
 rd:AL w b g s
 cb:∀p∈bx,w.heap[p.1]?=some p.2
 b6:w.heap[t6]?=some (.cells c6 T6 (0,0))
 fr:Fr b w0 w
 lb:b<w0.heap.size
 lg:g<w0.heap.size
 lx:∀p∈bx,w0.heap.size≤p.1∧p.1<t6
 l6:w0.heap.size≤t6
section
variable {w0 w w' : World} {b g t6 : Nat} {bx : List Box} {T6 : TypeId} {c6 : Array Value} {s s' : Rd.St}
theorem BI.step (h:BI w0 b g t6 bx T6 c6 s w) (hr:AL w' b g s') (hf:Fr b w w'):BI w0 b g t6 bx T6 c6 s' w':=by
 have lb:=h.lb;have l6:=h.l6;refine⟨hr,λp hp=>?_,?_,h.fr.trans hf,lb,h.lg,h.lx,l6⟩
 ·have o:=h.cb p hp;have A:=h.lx p hp;rw[hf.block p.1 (block_lt o) (by omega)];exact o
 ·rw[hf.block t6 (block_lt h.b6) (by omega)];exact h.b6
theorem BI.below (h:BI w0 b g t6 bx T6 c6 s w) (hb:Below w.heap.size w w'):BI w0 b g t6 bx T6 c6 s w':=h.step (h.rd.below hb) (But.of_below hb)
theorem BI.put (h:BI w0 b g t6 bx T6 c6 s w) (j:Nat) (v:Value):BI w0 b g t6 bx T6 (c6.setIfInBounds j v) s (w.setCell ⟨t6,j,none⟩ v):=by
 have lb:=h.lb;have lg:=h.lg;have l6:=h.l6;refine⟨h.rd.set_ne (by omega) (by omega) _ _,λp hp=>?_,Ao h.b6,h.fr.setCell (.inr l6) v,lb,lg,h.lx,l6⟩;have o:=h.lx p hp;rw[AJ (by omega)];exact h.cb p hp
theorem BI.cellx (h:BI w0 b g t6 bx T6 c6 s w) {t:Nat} {v:Value} {T:TypeId} (hp:(t,Obj.cells #[v] T (0,0))∈bx):w.cell? ⟨t,0,none⟩=some v:=by
 have:=h.cb _ hp;simp only at this;simp[World.cell?,this]
theorem BI.fin {d:D} {cs:List Value} {P:Nat→Prop} {r:Nat} {o:Obj} (h:BI w0 b g t6 bx T6 cs.toArray s w) (hr:(r,o)∈bx) (hd:Reads w P d cs) (hP:∀x,P x→t6<x) :
  Reads (putCells w r 0 cs) (λx=>w0.heap.size≤x) d cs∧AL (putCells w r 0 cs) b g s∧Fr b w0 (putCells w r 0 cs):=by
 have lb:=h.lb;have lg:=h.lg;have l6:=h.l6;have C:=h.lx _ hr;simp only at C;have B:∀x,x≠r→(putCells w r 0 cs).heap[x]?=w.heap[x]?:=λx h1=>AW _ _ h1 _ _ _
 have A:=AU r cs 0 w;have E:=Aj r cs 0 w;refine⟨hd.to ⟨by rw[A];exact QM _,λx hx hp=>⟨by have:=hP x hp;show w0.heap.size≤x;omega,B x (by have:=hP x hp;omega)⟩⟩,h.rd.to (by rw[A];exact QM _) (B b (by omega)) (B g (by omega)),⟨E.1.trans h.fr.os,E.2.1.trans h.fr.tape,E.2.2.trans h.fr.output,by rw[A];exact h.fr.size,λx hx hxb=>by
  rw[B x (by omega)];exact h.fr.block x hx hxb⟩⟩
end
namespace Sd
def In.d (x:In):D:=.obj [.str x.name,.str x.type,.bool x.has,x.dflt.d,.int x.at_]
def Fd.d (x:Fd):D:=.obj [.str x.name,.seq 9 (x.args.map In.d),.str x.type,.int x.at_]
def Td.d (x:Td):D:=.obj [.int x.kind,.str x.name,.seq 1 (sds x.impl),.seq 4 (x.fields.map Fd.d),.seq 1 (sds x.members),.seq 9 (x.inputs.map In.d),.int x.at_]
end Sd
def FLI {α:Type} (w0:World) (b g t6:Nat) (bx:List Box) (T6:TypeId) (mk:Value→Array Value) (E:TypeId) (k:Nat) (dd:α→D) (m:Nat) (d1:Int) (s:Rd.St) (out:List α) (w:World):Prop :=
 LI w0 b g t6 bx T6 mk E k s (out.map dd) w∧s.deep=d1∧s.rest.length≤m∧(s.err=0→out.length+s.rest.length≤1602)∧out.length≤1603
theorem BI.li {w0 w:World} {b g t6 k:Nat} {bx:List Box} {T6 E:TypeId} {mk:Value→Array Value} {s:Rd.St} (h:BI w0 b g t6 bx T6 (mk (.slice none 0 0)) s w):LI w0 b g t6 bx T6 mk E k s [] w :=
 ⟨h.rd,h.cb,⟨_,h.b6,AY.nil _ _ _ _ _⟩,h.fr,h.lb,h.lg,λp hp=>⟨(h.lx p hp).1,by have:=(h.lx p hp).2;omega⟩,h.l6⟩
theorem LI.bi {w0 w:World} {b g t6 k:Nat} {bx:List Box} {T6 E:TypeId} {mk:Value→Array Value} {s:Rd.St} {ds:List D} (h:LI w0 b g t6 bx T6 mk E k s ds w) {bx':List Box} (hs:∀p∈bx',p∈bx∧p.1<t6) :
  ∃a c,BI w0 b g t6 bx' T6 (mk (.slice a ds.length c)) s w∧Reads w (λx=>t6<x) (.seq k ds) [.slice a ds.length c]:=by
 obtain⟨v,A,o⟩:=h.ex;obtain⟨a,c,rfl⟩:=o.form;have B:=BM t6 bx;exact⟨a,c,⟨h.rd,λp hp=>h.cb p (hs p hp).1,A,h.fr,h.lb,h.lg,λp hp=>⟨(h.lx0 p (hs p hp).1).1,(hs p hp).2⟩,h.l6⟩,o.reads.to (AD.sub w (λx _ hp=>by
  rcases hp with hp|hp
  ·exact hp.1
  ·have:=(o.lt x hp).1;show t6<x;omega))⟩
theorem JL {w:World} {P:Nat→Prop} {x:Sd.In} {cs:List Value} (h:Reads w P x.d cs):∃(nm ty t:ByteArray) (hb:Bool) (k a b':Int) (a1 a2:Option Addr) (n1 c1 n2 c2:Nat),cs=[.string nm,.string ty,.bool hb,.int .i64 k,.string t,.slice a1 n1 c1,.slice a2 n2 c2,.int .i64 a,.int .i64 b']:=by
 unfold Sd.In.d at h;obtain⟨Q,T,rfl,o,F⟩:=h.obj_inv.cons_inv;obtain⟨N,K,rfl,G,H⟩:=F.cons_inv;obtain⟨J,S,rfl,B,I⟩:=H.cons_inv;obtain⟨L,M,rfl,C,A⟩:=I.cons_inv;obtain⟨O,R,rfl,E,D⟩:=A.cons_inv;obtain rfl:=o.str_inv;obtain rfl:=G.str_inv;obtain rfl:=B.bool_inv;obtain⟨k,a,t,a1,a2,n1,c1,n2,c2,rfl⟩:=Cq C;obtain rfl:=E.int_inv;obtain rfl:=D.nil_inv;exact⟨_,_,_,_,_,_,_,_,_,_,_,_,_,rfl⟩
section
variable {w : World} {P : Nat → Prop}
end
namespace Qr
def Dir.d (x:Dir):D:=.obj [.str x.name,.seq 7 (x.args.map Rd.A.d),.int x.at_]
mutual
def Sel.d:Sel→D
 | .mk k al nm ar ds ss a=>.obj [.int k,.str al,.str nm,.seq 7 (ar.map Rd.A.d),.seq 3 (ds.map Dir.d),.seq 7 (Sel.dl ss),.int a]
def Sel.dl:List Sel→List D
 | []=>[]
 | x::r=>Sel.d x::Sel.dl r
end
theorem Sel.dl_map:∀l:List Sel,Sel.dl l=l.map Sel.d
 | []=>by rw[Sel.dl];rfl
 | x::r=>by rw[Sel.dl,Sel.dl_map r];rfl
def Vd.d (x:Vd):D:=.obj [.str x.name,.str x.type,.bool x.has,x.dflt.d,.int x.at_]
def Op.d (x:Op):D:=.obj [.int x.kind,.str x.name,.seq 9 (x.vars.map Vd.d),.seq 3 (x.dirs.map Dir.d),.seq 7 (x.sels.map Sel.d),.int x.at_]
def Fr.d (x:Fr):D:=.obj [.str x.name,.str x.on,.seq 3 (x.dirs.map Dir.d),.seq 7 (x.sels.map Sel.d),.int x.at_]
end Qr
def D.one:D→Bool
 | .obj _=>false
 | _=>true
theorem Reads.one_cell {w:World} {P:Nat→Prop} {d:D} {cs:List Value} (h:Reads w P d cs) (hd:d.one=true):∃v,cs=[v]:=by
 cases h with
 | int n=>exact⟨_,rfl⟩
 | str s=>exact⟨_,rfl⟩
 | bool b=>exact⟨_,rfl⟩
 | obj h=>cases hd
 | seq h=>exact⟨_,rfl⟩
theorem Af.set {w:World} {P:Nat→Prop} {d:D} {v:Value} (hv:Reads w P d [v]):∀{ds:List D} {cs:List Value} (j:Nat),Af w P ds cs→ds.all D.one=true→Af w P (ds.set j d) (cs.set j v)
 | [],_,j,.nil,_=>by cases j<;>exact .nil
 | x::ds,_,0,.cons h t,ho=>by
  rw[List.all_cons,Bool.and_eq_true]at ho;obtain⟨u,rfl⟩:=h.one_cell ho.1;exact .cons hv t
 | x::ds,_,j+1,.cons h t,ho=>by
  rw[List.all_cons,Bool.and_eq_true]at ho;obtain⟨u,rfl⟩:=h.one_cell ho.1;exact .cons h (Af.set hv j t ho.2)
structure FI (w0:World) (b g t6:Nat) (bx:List Box) (T6:TypeId) (ds:List D) (cs:List Value) (s:Rd.St) (w:World):Prop where
 bi:BI w0 b g t6 bx T6 cs.toArray s w
 rr:Af w (λx=>t6<x) ds cs
section
variable {w0 w w' : World} {b g t6 : Nat} {bx : List Box} {T6 : TypeId} {ds : List D} {cs : List Value} {s s' : Rd.St}
theorem FI.rd (h:FI w0 b g t6 bx T6 ds cs s w):AL w b g s:=h.bi.rd
theorem FI.step (h:FI w0 b g t6 bx T6 ds cs s w) (hr:AL w' b g s') (hf:Fr b w w'):FI w0 b g t6 bx T6 ds cs s' w' :=
 ⟨h.bi.step hr hf,h.rr.to ⟨hf.size,λx hx hp=>⟨hp,hf.block x hx (by have B:=h.bi.l6;have o:=h.bi.lb;have A:t6<x:=hp;omega)⟩⟩⟩
theorem FI.below (h:FI w0 b g t6 bx T6 ds cs s w) (hb:Below w.heap.size w w'):FI w0 b g t6 bx T6 ds cs s w':=h.step (h.rd.below hb) (But.of_below hb)
theorem FI.put (h:FI w0 b g t6 bx T6 ds cs s w) (j:Nat) {d:D} {v:Value} (hv:Reads w (λx=>t6<x) d [v]) (ho:ds.all D.one=true):FI w0 b g t6 bx T6 (ds.set j d) (cs.set j v) s (w.setCell ⟨t6,j,none⟩ v):=by
 refine⟨?_,(h.rr.set hv j ho).to ⟨by rw[AQ];exact QM _,λx hx hp=>⟨hp,AJ (by have o:t6<x:=hp;omega)⟩⟩⟩;have:=h.bi.put j v
 rwa [List.setIfInBounds_toArray]at this
theorem FI.data (h:FI w0 b g t6 bx T6 ds cs s w) {d:D} {us:List Value} (hd:Reads w' (λx=>w.heap.size≤x) d us):Reads w' (λx=>t6<x) d us :=
 hd.to (AD.sub w' (λx _ hp=>by have A:=block_lt h.bi.b6;have o:w.heap.size≤x:=hp;show t6<x;omega))
theorem FI.fin {r:Nat} {o:Obj} (h:FI w0 b g t6 bx T6 ds cs s w) (hr:(r,o)∈bx) :
  Reads (putCells w r 0 cs) (λx=>w0.heap.size≤x) (.obj ds) cs∧AL (putCells w r 0 cs) b g s∧Fr b w0 (putCells w r 0 cs) :=
 h.bi.fin hr (.obj h.rr) (λx hx=>hx)
theorem FI.start {w1 w2:World} {T:TypeId} {zs:Array Value} (hr:AL w2 b g s) (hf:Fr b (w.alloc (.cells zs T)) w2) (hl:b<w.heap.size∧g<w.heap.size) (hw:w1=w2.alloc (.cells cs.toArray T6)) (hd:Af w1 (λx=>w2.heap.size<x) ds cs) :
  FI w b g w2.heap.size [(w.heap.size,.cells zs T (0,0))] T6 ds cs s w1:=by
 have B:=hf.size;have A:(w.alloc (.cells zs T)).heap.size=w.heap.size+1:=by simp
 have o:Below w2.heap.size w2 w1:=by rw[hw];exact (Below.refl _ _).alloc (QM _) _
 refine⟨⟨hr.below o,λp hp=>?_,by rw[hw];exact AC _ _,((But.of_below ((Below.refl _ _).alloc (QM _) _)).trans hf).trans (But.of_below o),hl.1,hl.2,λp hp=>?_,by omega⟩,hd⟩
 ·rw[QB.1 hp];show w1.heap[w.heap.size]?=_;rw[o.block w.heap.size (by omega),hf.block w.heap.size (by omega) (by omega)];exact AC _ _
 ·rw[QB.1 hp];show w.heap.size≤w.heap.size∧w.heap.size<w2.heap.size;omega
end
theorem Jz:(Tryz.prog.info? 122).map (λi=>(i.zero,i.size,i.bytes))=some (some (.agg #[.string ⟨#[]⟩,.slice none 0 0,.int .i64 0]),3,48):=by kernel_rfl
theorem Aq (w:World) (c:List UInt8) (v:ByteArray) (T:TypeId) (hv:v=⟨c.toArray⟩):BE (w.alloc (.cells #[.string v] T)) (.slice (some ⟨w.heap.size,0,none⟩) 1 1) [c]:=by
 subst hv;exact Bn w [c] #[.string ⟨c.toArray⟩] T rfl
theorem Ap (b g n:Nat) (hnb:n≤1600) (s:Rd.St) (w:World) (h:AL w b g s) (hn:s.rest.length≤n) (hd:0≤s.deep∧s.deep+n≤900000) :
  Calls Tryz.prog 45 #[.pointer (some ⟨b,0,none⟩)] w (I9 b g w 3 ((Qr.dirs (n+1) s).2.map Qr.Dir.d) (Qr.dirs (n+1) s).1):=by
 obtain⟨i0,hi,aP,aO,aN⟩:=info_parts Jz;have H:=QA h;have HL:=QA h.rest_len;obtain⟨d0,d1⟩:=hd;clear h;go_enter Tryz.func45,Tryz.ntmps45;go_wp2_with fail
 go_loopg [3] (s.rest.length+2) (λk s3 wr=>∃(m:Nat) (o:Rd.St) (C:List Qr.Dir),k=m+1∧o.rest.length<m∧C.length+o.rest.length≤1502∧o.rest.length≤n∧o.deep=s.deep∧GI w b g 122 3 o s3 (C.map Qr.Dir.d) wr∧Qr.dirsGo (n+1) m o C=Qr.dirs (n+1) s)
 case atStart=>exact⟨s.rest.length+1,s,[],rfl,by omega,by have:=HL.out;simp;omega,hn,rfl,GI.nil H.out _ _,rfl⟩
 case round =>
  obtain⟨m,o,C,rfl,hm,bc,aH,ak,hG,an⟩:=hrel;obtain⟨va,vc,hv⟩:=hG.row.form;rw[QV]at hv;subst hv;have HG:=QA hG;have au:=QA an;have ap:=QA ak;have aB:Below wr.heap.size wr (wr.alloc (.cells #[.string ⟨#[64]⟩] 9)):=(Below.refl _ _).alloc (QM _) _;have G:=QA aB;clear hG an ak aB;go_wp2_with fail;refine (Bo b g o _ [Qr.sAt] _ (HG.out.rd.below G.out) (Aq wr Qr.sAt _ _ rfl) (by simp)).mono ?_;rintro r w2 ⟨rfl,hb2⟩;rw[show ([Qr.sAt].any (Rd.isS o))=Rd.isS o Qr.sAt by simp];have Z:=QA (But.of_below (X:=λk=>k=b) (G.out.trans (hb2.mono G.out.size)));have ac:=QA (HG.out.rd.below (G.out.trans (hb2.mono G.out.size)));obtain⟨B,hB⟩:∃B,B=Rd.isS o Qr.sAt:=⟨_,rfl⟩
  have HB:=QA hB;rw[← hB];obtain⟨m',rfl⟩:∃m',m=m'+1:=⟨m-1,by omega⟩
  clear hB hb2;cases B
  ·have HE:Hid (Qr.dirs (n+1) s=(o,C)):=by
    rw[← au.out,Qr.dirsGo,if_neg (by rw[← HB.out];simp)];exact QA rfl
   go_wp2_with fail;go_ret;rw[HE.out];have aw:=HG.out.step ac.out Z.out;exact⟨va,vc,by rw[QV];rfl,by rw[QV];exact aw.reads,ac.out,aw.fr⟩
  ·have aT:=QA (Rd.next_sign HB.out.symm);have aJ:Hid (Qr.dirsGo (n+1) m' (Qr.dir (n+1) o).1 (C++[(Qr.dir (n+1) o).2])=Qr.dirs (n+1) s):=by
    rw[← au.out,Qr.dirsGo,if_pos HB.out.symm];exact QA rfl
   go_wp2_with fail;refine (Aa b g o w2 ac.out).mono ?_;rintro r w3 ⟨rfl,h3,f3⟩;obtain⟨D,Q⟩:∃x,x=(Rd.peek o).at_:=⟨_,rfl⟩
   rw[← Q];have aU:=QA Q;obtain⟨s3,aa⟩:∃x,x=Rd.next o:=⟨_,rfl⟩
   rw[← aa]at h3;have U:=QA aa;have az:Hid (FI wr b g w3.heap.size [] 122 [.str [],.seq 7 [],.int D] [.string ⟨#[]⟩,.slice none 0 0,.int .i64 D] s3 (w3.alloc (.cells #[.string ⟨#[]⟩,.slice none 0 0,.int .i64 D] 122))):=by
    have aq:Below w3.heap.size w3 (w3.alloc (.cells #[.string ⟨#[]⟩,.slice none 0 0,.int .i64 D] 122)):=(Below.refl _ _).alloc (QM _) _;have h1:=Z.out.size;have h2:=f3.size;exact QA ⟨⟨h3.below aq,λp hp=>absurd hp (by simp),AC _ _,(Z.out.trans f3).trans (But.of_below aq),HG.out.rd.lt.1,HG.out.rd.lt.2,λp hp=>absurd hp (by simp),by omega⟩,.cons (.str []) (.cons (.seq (cap:=0) .nil) (.cons (.int _) .nil))⟩
   obtain⟨t6,am⟩:∃x,x=w3.heap.size:=⟨_,rfl⟩
   clear h3 f3 Q aa;go_wp2_with fail;refine (AZ b g s3 _ az.out.rd).mono ?_;rintro r w4 ⟨rfl,h4,f4⟩;have J:=az.out.step h4 f4;rw[← am]at J ⊢;clear am;obtain⟨s4,R⟩:∃x,x=(Rd.name s3).1:=⟨_,rfl⟩
   obtain⟨E,V⟩:∃x,x=(Rd.name s3).2:=⟨_,rfl⟩
   rw[← R]at J;rw[← V];have aX:=QA J;have Y:=QA R;have aE:=QA V;have I:=QA (J.put 0 (.str E) rfl);clear h4 f4 J R V;obtain⟨y0,aR⟩:=cf1 aX.out.bi.b6 0 (.string ⟨#[]⟩);have ax:Hid (Rd.Ok o s4):=by rw[Y.out,U.out];exact QA ((Rd.ok_next o).trans (Rd.ok_name _))
   have ai:Hid (s4.deep=s.deep):=by rw[Y.out,Rd.name_deep,U.out,Rd.next_deep];exact ap
   go_wp2_with fail;refine (Cc b g false n hnb s4 _ I.out.rd (QQ ax.out.len aH) (by rw[ai.out];omega)).mono ?_;rintro r w5 ⟨a5,c5,rfl,hrd,P,f5⟩;obtain⟨q,hq⟩:∃x,x=Rd.args false (n+1) s4:=⟨_,rfl⟩
   rw[← hq]at hrd P ⊢;have HQ:=QA hq;have al:=QA (I.out.data hrd);have N:=QA (I.out.step P f5);have M:=QA (N.out.put 1 al.out rfl);clear hrd P f5 hq y0 aR;obtain⟨F,ao⟩:∃x,x=q.2.length:=⟨_,rfl⟩
   rw[QV,← ao]at al M ⊢;clear ao;have y0:=AA N.out.bi.b6 0 (.string ⟨E.toArray⟩) rfl;obtain⟨y1,bg⟩:=cf1 N.out.bi.b6 1 (.slice none 0 0);have y2:=AA N.out.bi.b6 2 (.int .i64 D) rfl;have ar:=QA (show Af (w5.setCell ⟨t6,1,none⟩ (.slice a5 F c5)) (λx=>t6<x) [.str E,.seq 7 (q.2.map Rd.A.d),.int D] [.string ⟨E.toArray⟩,.slice a5 F c5,.int .i64 D] from M.out.rr);have a4:=M.out.bi.l6;obtain⟨W,hW⟩:∃x,x=(w5.setCell ⟨t6,1,none⟩ (.slice a5 F c5)).alloc (.cells #[.string ⟨E.toArray⟩,.slice a5 F c5,.int .i64 D] 122):=⟨_,rfl⟩
   have O:Below (w5.setCell ⟨t6,1,none⟩ (.slice a5 F c5)).heap.size (w5.setCell ⟨t6,1,none⟩ (.slice a5 F c5)) W:=by rw[hW];exact (Below.refl _ _).alloc (QM _) _
   have ad:=M.out.below O;have K:=HG.out.step ad.rd ad.bi.fr;obtain⟨⟨xs,hx,av⟩,aF⟩:=K.row;rw[QV]at hx;have aK:=QA K;have HX:=QA hx;have aS:=QA av;have aI:Hid (Reads W (λx=>w.heap.size≤x∧(Value.slice va C.length vc).ownBlock≠some x) (Qr.Dir.d ⟨E,q.2,D⟩) [.string ⟨E.toArray⟩,.slice a5 F c5,.int .i64 D]):=by
    refine QA (HG.out.data ((Reads.obj ar.out).to ?_));exact⟨O.size,λx hx2 hp=>⟨by have h3:t6<x:=hp;show wr.heap.size≤x;omega,O.block x hx2⟩⟩
   have aC:=QA (Af.one ar.out);have aj:Hid (∀j u,([.string ⟨E.toArray⟩,.slice a5 F c5,.int .i64 D]:List Value)[j]?=some u→W.cell? ((⟨w5.heap.size,0,none⟩:Addr).add j)=some u):=by
    have:=AV (w:=W) (L:=w5.heap.size) (fz:=(0,0)) (T:=122) (zs:=[.string ⟨E.toArray⟩,.slice a5 F c5,.int .i64 D]) (by rw[hW];have h9:=AC (w5.setCell ⟨t6,1,none⟩ (.slice a5 F c5)) (.cells #[.string ⟨E.toArray⟩,.slice a5 F c5,.int .i64 D] 122);rw[AQ]at h9;exact h9);exact QA this
   have S:w.heap.size≤W.heap.size:=K.fr.size;clear O ad K hx av aF HL;subst hW;go_wp2_with (first|(at_builtin;refine wpList_append_own_at _ rfl _ _ 31 rfl w.heap.size 122 i0 _ 3 48 Tryz.underlying31 hi aP aO aN rfl (by decide) (.slice va C.length vc) C.length xs rfl HX.out ⟨w5.heap.size,0,none⟩ 1 1 [.string ⟨E.toArray⟩,.slice a5 F c5,.int .i64 D] rfl rfl aj.out aC.out (by unfold maxLen;omega) (by omega) S ?_;intro v' w8 hrow8 hg8 hnil8 hloc8;clear hnil8;have ay:=QA hrow8;have aM:=QA hg8;have aV:=QA hloc8;clear hrow8 hg8 hloc8)|fail);go_roundg (m'+1)
   case measure=>omega
   case rel =>
    have hE:Qr.dir (n+1) o=(q.1,⟨E,q.2,D⟩):=by unfold Qr.dir;dsimp only;rw[← U.out,← aE.out,← Y.out,← HQ.out,← aU.out]
    have h1:=aT.out.1;have h2:=(Qr.ok_dir (n+1) o).len;have h3:=(Qr.dir_deep (n+1) o)
    have h4:=aJ.out;have bf:(Rd.next o).rest.length<o.rest.length:=h1;have P:(Qr.dir (n+1) o).1.rest.length≤(Rd.next o).rest.length:=((Rd.ok_name (Rd.next o)).trans (Rd.ok_args false (n+1) _)).len;rw[hE]at h2 h3 h4 P;refine⟨m',q.1,C++[⟨E,q.2,D⟩],rfl,by simp only at P;omega,by rw[QS];simp only[List.length_singleton]at P ⊢;omega,by simp only at P;omega,by rw[← ap.out];exact h3,?_,h4⟩;rw[List.map_append];exact aK.out.more (by rw[QV];exact HX.out) aS.out aI.out rfl aM.out aV.out (by rw[QV];exact ay.out)
theorem Jn (b g:Nat) (s:Rd.St) (w:World) (h:AL w b g s) :
  Calls Tryz.prog 43 #[.pointer (some ⟨b,0,none⟩)] w λr w'=>r=.returned (.string ⟨(Qr.but s).2.toArray⟩)∧AL w' b g (Qr.but s).1∧Fr b w w':=by
 have H:=QA h;have C:Below w.heap.size w (w.alloc (.cells #[.string ⟨#[111,110]⟩] 9)):=(Below.refl _ _).alloc (QM _) _;have A:=QA C;clear C h;go_enter Tryz.func43,Tryz.ntmps43;go_wp2_with fail;refine (Am b g s _ [Qr.sOn] _ (H.out.below A.out) (Aq w Qr.sOn _ _ rfl) (by simp)).mono ?_;rintro r w2 ⟨rfl,hb2⟩;have o:=QA (A.out.trans (hb2.mono A.out.size));have I:=QA (H.out.below o.out);obtain⟨B,F⟩:∃B,B=Rd.isW s [Qr.sOn]:=⟨_,rfl⟩
 have J:=QA F;rw[← F];clear F hb2;cases B
 ·have E:Hid (Qr.but s=Rd.name s):=by unfold Qr.but;rw[if_neg (by rw[← J.out];simp)];exact QA rfl
  go_wp2_with fail;refine (AZ b g _ w2 I.out).mono ?_;rintro r w3 ⟨rfl,h3,f3⟩;have D:=QA h3;have G:=QA f3;clear h3 f3;go_wp2_with fail;go_ret;rw[E.out];exact⟨rfl,D.out,(But.of_below o.out).trans G.out⟩
 ·have E:Hid (Qr.but s=Rd.name (Rd.wrong s)):=by unfold Qr.but;rw[if_pos J.out.symm];exact QA rfl
  go_wp2_with fail;refine (A9 b g _ w2 I.out).mono ?_;rintro r w4 ⟨rfl,h4,f4⟩;have K:=QA h4;have L:=QA f4;clear h4 f4;go_wp2_with fail;refine (AZ b g _ w4 K.out).mono ?_;rintro r w3 ⟨rfl,h3,f3⟩;have D:=QA h3;have G:=QA f3;clear h3 f3;go_wp2_with fail;go_ret;rw[E.out];exact⟨rfl,D.out,((But.of_below o.out).trans L.out).trans G.out⟩
theorem Cy (b g:Nat) (n:Nat) (hnb:n≤1600) (s:Rd.St) (w:World) (h:AL w b g s) (hn:s.err≠0∨s.rest.length≤n) (hd:0≤s.deep∧s.deep+n≤900000) :
  Calls Tryz.prog 50 #[.pointer (some ⟨b,0,none⟩)] w (Got b g w (Qr.variable_ (n+1) s).2.d (Qr.variable_ (n+1) s).1):=by
 have a3:=h.lt;have H:=QA h;have HN:=QA hn;obtain⟨d0,d1⟩:=hd;have a8:Below w.heap.size w (w.alloc (.cells #[.string ⟨#[]⟩,.string ⟨#[]⟩,.bool false,.int .i64 0,.string ⟨#[]⟩,.slice none 0 0,.slice none 0 0,.int .i64 0,.int .i64 0] 107)):=(Below.refl _ _).alloc (QM _) _;have aj:=QA a8;clear h hn a8;go_enter Tryz.func50,Tryz.ntmps50;go_wp2_with fail;refine (A3 b g s _ (H.out.below aj.out)).mono ?_;rintro r w2 ⟨rfl,hb2⟩;obtain⟨C,ak⟩:∃x,x=(Rd.peek s).at_:=⟨_,rfl⟩
 rw[← ak];have be:=QA ak;have aY:BI w b g w2.heap.size [(w.heap.size,.cells #[.string ⟨#[]⟩,.string ⟨#[]⟩,.bool false,.int .i64 0,.string ⟨#[]⟩,.slice none 0 0,.slice none 0 0,.int .i64 0,.int .i64 0] 107 (0,0))] 107 #[.string ⟨#[]⟩,.string ⟨#[]⟩,.bool false,.int .i64 0,.string ⟨#[]⟩,.slice none 0 0,.slice none 0 0,.int .i64 0,.int .i64 C] s (w2.alloc (.cells #[.string ⟨#[]⟩,.string ⟨#[]⟩,.bool false,.int .i64 0,.string ⟨#[]⟩,.slice none 0 0,.slice none 0 0,.int .i64 0,.int .i64 C] 107)):=by
  have bM:(w.alloc (.cells #[.string ⟨#[]⟩,.string ⟨#[]⟩,.bool false,.int .i64 0,.string ⟨#[]⟩,.slice none 0 0,.slice none 0 0,.int .i64 0,.int .i64 0] 107)).heap.size=w.heap.size+1:=by simp
  have bL:=hb2.size;have ao:Below w2.heap.size w2 (w2.alloc (.cells #[.string ⟨#[]⟩,.string ⟨#[]⟩,.bool false,.int .i64 0,.string ⟨#[]⟩,.slice none 0 0,.slice none 0 0,.int .i64 0,.int .i64 C] 107)):=(Below.refl _ _).alloc (QM _) _;refine⟨((H.out.below aj.out).below hb2).below ao,λp hp=>?_,AC _ _,((But.of_below aj.out).trans (But.of_below hb2)).trans (But.of_below ao),a3.1,a3.2,λp hp=>?_,by omega⟩
  ·simp only[QB]at hp;subst hp;show (w2.alloc _).heap[w.heap.size]?=_;rw[ao.block w.heap.size (by omega),hb2.block w.heap.size (by omega)];exact AC _ _
  ·simp only[QB]at hp;subst hp;simp only;omega
 have a6:=QA aY;obtain⟨G,al⟩:∃x,x=w2.heap.size:=⟨_,rfl⟩
 have bK:=QA al;clear hb2 aY ak;go_wp2_with fail;refine (BD b g s Rd.dollar _ a6.out.rd).mono ?_;rintro r w1 ⟨rfl,h1,f1⟩;have aa:=a6.out.step h1 f1;rw[← al]at aa ⊢;clear al;obtain⟨s1,aC⟩:∃x,x=Rd.want Rd.dollar s:=⟨_,rfl⟩
 rw[← aC]at aa;have Z:=QA aC;have a7:=QA aa;have a0:Hid (Rd.Ok s s1):=by rw[Z.out];exact QA (Rd.ok_want _ s)
 have aZ:Hid (s1.deep=s.deep):=by rw[Z.out];exact QA (Rd.want_deep _ s)
 clear h1 f1 aa aC;go_wp2_with fail;refine (AZ b g s1 _ a7.out.rd).mono ?_;rintro r w3 ⟨rfl,h3,f3⟩;have ad:=a7.out.step h3 f3;obtain⟨s3,ax⟩:∃x,x=(Rd.name s1).1:=⟨_,rfl⟩
 obtain⟨E,am⟩:∃x,x=(Rd.name s1).2:=⟨_,rfl⟩
 rw[← ax]at ad;rw[← am];have ab:=QA ax;have aT:=QA am;have aR:=QA ad;have l6:=ad.lx _ (QB.2 rfl);simp only at l6;have n1:¬G=w.heap.size:=by omega
 have n2:¬w.heap.size=G:=by omega
 have aV:Hid (Rd.Ok s s3):=by rw[ab.out];exact QA (a0.out.trans (Rd.ok_name s1))
 have aX:Hid (s3.deep=s.deep):=by rw[ab.out,Rd.name_deep,aZ.out];exact QA rfl
 clear h3 f3 ad ax am;obtain⟨y0,P,y1,S,y2,J,y3,K,y4,L,y5,N,y6,M,y7,O,y8,R⟩:=cf9 aR.out.b6 (.string ⟨#[]⟩) (.string ⟨#[]⟩) (.bool false) (.int .i64 0) (.string ⟨#[]⟩) (.slice none 0 0) (.slice none 0 0) (.int .i64 0) (.int .i64 C);have bj:=QA (aR.out.put 0 (.string ⟨E.toArray⟩));go_wp2_with fail;refine (BD b g s3 Rd.colon _ bj.out.rd).mono ?_;rintro r w5 ⟨rfl,h5,f5⟩;have aq:=QA (bj.out.step h5 f5);obtain⟨s5,aw⟩:∃x,x=Rd.want Rd.colon s3:=⟨_,rfl⟩
 rw[← aw]at aq;have ae:=QA aw;have X:Hid (Rd.Ok s s5):=by rw[ae.out];exact QA (aV.out.trans (Rd.ok_want _ s3))
 have af:Hid (s5.deep=s.deep):=by rw[ae.out,Rd.want_deep,aX.out];exact QA rfl
 have bF:Hid (s5.err≠0∨s5.rest.length≤n):=by
  refine QA ?_;rcases HN.out with h|h
  ·left;rw[X.out.err h];exact h
  ·right;exact QQ X.out.len h
 clear h5 f5 aw;clear y0 P y1 S y2 J y3 K y4 L y5 N y6 M y7 O y8 R;go_wp2_with fail;refine (Hy b g n s5 w5 aq.out.rd bF.out hnb (by rw[af.out];omega)).mono ?_;rintro r w6 ⟨rfl,h6,f6⟩;obtain⟨A,az⟩:∃x,x=(Rd.type (n+1) s5).1:=⟨_,rfl⟩
 obtain⟨I,ay⟩:∃x,x=(Rd.type (n+1) s5).2:=⟨_,rfl⟩
 have aA:=aq.out.step h6 f6;rw[← az]at aA;rw[← ay];have ac:=QA az;have bl:=QA ay;have bd:=QA aA;have ah:Hid (Rd.Ok s A):=by rw[ac.out];exact QA (X.out.trans (Rd.ok_type _ s5))
 have bb:Hid (A.deep=s.deep):=by rw[ac.out,Rd.type_deep,af.out];exact QA rfl
 clear h6 f6 aA az ay;obtain⟨y0,P,y1,S,y2,J,y3,K,y4,L,y5,N,y6,M,y7,O,y8,R⟩:=cf9 bd.out.b6 (.string ⟨E.toArray⟩) (.string ⟨#[]⟩) (.bool false) (.int .i64 0) (.string ⟨#[]⟩) (.slice none 0 0) (.slice none 0 0) (.int .i64 0) (.int .i64 C);have bc:=QA (bd.out.put 1 (.string ⟨I.toArray⟩));go_wp2_with fail;refine (BC b g A Qr.sEq _ bc.out.rd).mono ?_;rintro r w8 ⟨rfl,h8,f8⟩;have au:=QA (bc.out.step h8 f8);obtain⟨B,hB⟩:∃B,B=Rd.isS A Qr.sEq:=⟨_,rfl⟩
 have HB:=QA hB;rw[← hB];have bh:=QA (au.out.put 2 (.bool B));clear h8 f8 hB;clear y0 P y1 S y2 J y3 K y4 L y5 N y6 M y7 O y8 R;obtain⟨y0,P,y1,S,y2,J,y3,K,y4,L,y5,N,y6,M,y7,O,y8,R⟩:=cf9 au.out.b6 (.string ⟨E.toArray⟩) (.string ⟨I.toArray⟩) (.bool false) (.int .i64 0) (.string ⟨#[]⟩) (.slice none 0 0) (.slice none 0 0) (.int .i64 0) (.int .i64 C);obtain⟨z0,bk,z1,aQ,z2,bf,z3,a4,z4,a5,z5,bg,z6,ba,z7,bi,z8,aU⟩:=cf9 (au.out.cb (w.heap.size,.cells #[.string ⟨#[]⟩,.string ⟨#[]⟩,.bool false,.int .i64 0,.string ⟨#[]⟩,.slice none 0 0,.slice none 0 0,.int .i64 0,.int .i64 0] 107 (0,0)) (by simp)) (.string ⟨#[]⟩) (.string ⟨#[]⟩) (.bool false) (.int .i64 0) (.string ⟨#[]⟩) (.slice none 0 0) (.slice none 0 0) (.int .i64 0) (.int .i64 0);cases B
 ·have HT:Hid (Rd.take Qr.sEq A=A):=by unfold Rd.take;rw[if_neg (by rw[← HB.out];simp)];exact QA rfl
  have HE:Hid (Qr.variable_ (n+1) s=(A,⟨E,I,false,Rd.V.none,C⟩)):=by
   have aB:Qr.dflt (n+1) A=(A,Rd.V.none):=by unfold Qr.dflt;rw[if_neg (by rw[← HB.out];simp)]
   refine QA ?_;unfold Qr.variable_
   dsimp only
   rw[← Z.out,← ab.out,← aT.out,← ae.out,← ac.out,← bl.out,← be.out,← HB.out,aB]
  have an:Hid (BI w b g G [(w.heap.size,.cells #[.string ⟨#[]⟩,.string ⟨#[]⟩,.bool false,.int .i64 0,.string ⟨#[]⟩,.slice none 0 0,.slice none 0 0,.int .i64 0,.int .i64 0] 107 (0,0))] 107 [.string ⟨E.toArray⟩,.string ⟨I.toArray⟩,.bool false,.int .i64 0,.string ⟨#[]⟩,.slice none 0 0,.slice none 0 0,.int .i64 0,.int .i64 C].toArray A (w8.setCell ⟨G,2,none⟩ (.bool false))):=by
   have:=bh.out;rw[HT.out]at this;exact QA this
  have av:Hid (Reads (w8.setCell ⟨G,2,none⟩ (.bool false)) (λ_=>False) (Qr.Vd.d ⟨E,I,false,Rd.V.none,C⟩) [.string ⟨E.toArray⟩,.string ⟨I.toArray⟩,.bool false,.int .i64 0,.string ⟨#[]⟩,.slice none 0 0,.slice none 0 0,.int .i64 0,.int .i64 C]):=by
   unfold Qr.Vd.d;exact QA (.obj (.cons (.str _) (.cons (.str _) (.cons (.bool _) (.cons (Ar _ 0 0 []) (.cons (.int _) .nil))))))
  have o:=an.out.fin (r:=w.heap.size) (QB.2 rfl) av.out (λx hx=>hx.elim);simp only[putCells,QW,Nat.zero_add]at o;have ap:=QA o;clear o;go_wp2_with fail;refine bodyPost_ret (v:=.agg #[.string ⟨E.toArray⟩,.string ⟨I.toArray⟩,.bool false,.int .i64 0,.string ⟨#[]⟩,.slice none 0 0,.slice none 0 0,.int .i64 0,.int .i64 C]) (by simp[results,Tryz.results50,go_sem,z0,z1,z2,z3,z4,z5,z6,z7,z8,n1,n2]) rfl ?_;rw[HE.out];exact⟨_,rfl,ap.out⟩
 ·have HT:Hid (Rd.take Qr.sEq A=Rd.next A):=by unfold Rd.take;rw[if_pos HB.out.symm];exact QA rfl
  have bE:=QA (Rd.next_sign HB.out.symm);have bB:Hid ((Rd.next A).rest.length≤n):=by
   refine QA ?_;have h6:=ah.out.len;have h7:=bE.out.1;rcases HN.out with h|h
   ·have:=ah.out.err h;have hz:=HB.out;rw[Rd.isS_err (by rw[this];exact h)]at hz;cases hz
   ·omega
  have T:Hid (BI w b g G [(w.heap.size,.cells #[.string ⟨#[]⟩,.string ⟨#[]⟩,.bool false,.int .i64 0,.string ⟨#[]⟩,.slice none 0 0,.slice none 0 0,.int .i64 0,.int .i64 0] 107 (0,0))] 107 #[.string ⟨E.toArray⟩,.string ⟨I.toArray⟩,.bool true,.int .i64 0,.string ⟨#[]⟩,.slice none 0 0,.slice none 0 0,.int .i64 0,.int .i64 C] (Rd.next A) (w8.setCell ⟨G,2,none⟩ (.bool true))):=by
   have:=bh.out;rw[HT.out]at this;exact QA this
  have bv:=QA (Rd.next_deep A);go_wp2_with fail;refine (Ch b g true n hnb (Rd.next A) _ T.out.rd bB.out (by rw[bv.out,bb.out];omega)).mono ?_;rintro r w10 ⟨cs,rfl,hrd,hr10,hf10⟩;obtain⟨k,a,t,a1,a2,F,c1,D,c2,rfl⟩:=Cq hrd;obtain⟨aD,W⟩:∃x,x=(Rd.value true (n+1) (Rd.next A)).1:=⟨_,rfl⟩
  obtain⟨aE,U⟩:∃x,x=(Rd.value true (n+1) (Rd.next A)).2:=⟨_,rfl⟩
  rw[← W]at hr10;rw[← U]at hrd;have aW:=QA W;have aS:=QA U;have Y:=QA (T.out.step hr10 hf10);have bw:=block_lt T.out.b6;have bC:=QA (hrd.to (w':=putCells w10 G 3 [.int .i64 k,.string t,.slice a1 F c1,.slice a2 D c2,.int .i64 a]) (Q:=λx=>G<x) ⟨by rw[AU];exact QM _,λx hx hp=>⟨Nat.lt_of_lt_of_le bw hp,AW _ _ (by have:(w8.setCell ⟨G,2,none⟩ (.bool true)).heap.size≤x:=hp;omega) _ _ _⟩⟩);have HE:Hid (Qr.variable_ (n+1) s=(aD,⟨E,I,true,aE,C⟩)):=by
   have aB:Qr.dflt (n+1) A=(aD,aE):=by unfold Qr.dflt;rw[if_pos HB.out.symm,aW.out,aS.out]
   refine QA ?_;unfold Qr.variable_
   dsimp only
   rw[← Z.out,← ab.out,← aT.out,← ae.out,← ac.out,← bl.out,← be.out,← HB.out,aB]
  have av:Hid (Reads (putCells w10 G 3 [.int .i64 k,.string t,.slice a1 F c1,.slice a2 D c2,.int .i64 a]) (λx=>G<x) (Qr.Vd.d ⟨E,I,true,aE,C⟩) [.string ⟨E.toArray⟩,.string ⟨I.toArray⟩,.bool true,.int .i64 k,.string t,.slice a1 F c1,.slice a2 D c2,.int .i64 a,.int .i64 C]):=by
   unfold Qr.Vd.d;exact QA (.obj (.cons (.str _) (.cons (.str _) (.cons (.bool _) (.cons bC.out (.cons (.int _) .nil))))))
  have an:Hid (BI w b g G [(w.heap.size,.cells #[.string ⟨#[]⟩,.string ⟨#[]⟩,.bool false,.int .i64 0,.string ⟨#[]⟩,.slice none 0 0,.slice none 0 0,.int .i64 0,.int .i64 0] 107 (0,0))] 107 [.string ⟨E.toArray⟩,.string ⟨I.toArray⟩,.bool true,.int .i64 k,.string t,.slice a1 F c1,.slice a2 D c2,.int .i64 a,.int .i64 C].toArray aD (putCells w10 G 3 [.int .i64 k,.string t,.slice a1 F c1,.slice a2 D c2,.int .i64 a])) :=
   QA (((((Y.out.put 3 (.int .i64 k)).put 4 (.string t)).put 5 (.slice a1 F c1)).put 6 (.slice a2 D c2)).put 7 (.int .i64 a))
  have o:=an.out.fin (r:=w.heap.size) (QB.2 rfl) av.out (λx hx=>hx);simp only[putCells,QW,Nat.zero_add]at o;have ap:=QA o;clear y0 P z0 bk y1 S z1 aQ y2 J z2 bf y3 K z3 a4 y4 L z4 a5 y5 N z5 bg y6 M z6 ba y7 O z7 bi y8 R z8 aU;clear o hrd hr10 hf10 W U;obtain⟨y0,P,y1,S,y2,J,y3,K,y4,L,y5,N,y6,M,y7,O,y8,R⟩:=cf9 Y.out.b6 (.string ⟨E.toArray⟩) (.string ⟨I.toArray⟩) (.bool true) (.int .i64 0) (.string ⟨#[]⟩) (.slice none 0 0) (.slice none 0 0) (.int .i64 0) (.int .i64 C);obtain⟨z0,bk,z1,aQ,z2,bf,z3,a4,z4,a5,z5,bg,z6,ba,z7,bi,z8,aU⟩:=cf9 (Y.out.cb _ (QB.2 rfl)) (.string ⟨#[]⟩) (.string ⟨#[]⟩) (.bool false) (.int .i64 0) (.string ⟨#[]⟩) (.slice none 0 0) (.slice none 0 0) (.int .i64 0) (.int .i64 0);go_wp2_with fail;refine bodyPost_ret (v:=.agg #[.string ⟨E.toArray⟩,.string ⟨I.toArray⟩,.bool true,.int .i64 k,.string t,.slice a1 F c1,.slice a2 D c2,.int .i64 a,.int .i64 C]) (by simp[results,Tryz.results50,go_sem,z0,z1,z2,z3,z4,z5,z6,z7,z8,n1,n2]) rfl ?_;rw[HE.out];exact⟨_,rfl,ap.out⟩
end Go.Proofs.YtedeapbonbbacaaGreatDoor
