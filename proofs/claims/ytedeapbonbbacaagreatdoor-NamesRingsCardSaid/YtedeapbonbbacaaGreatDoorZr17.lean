/-
  Values in memory. Rows of texts compared, walked. The reader: Value, Arg at any depth; Args, walked. A row in a variable of a call's own, beside the reader. The reader of a text: New, walked. Texts as data; a block that is filled field by field. What stands while a part of a type is read; one element of a row. Documents as data in memory; a block that is filled field by field, its data beside it. The reader of documents: directives, but, walked. The reader of documents: variable, walked.
-/
import Derived.Test.YtedeapbonbbacaaGreatDoorZr16
import Derived.Test.YtedeapbonbbacaaGreatDoorZr3
import Derived.Test.YtedeapbonbbacaaGreatDoorZr15
import Derived.Test.YtedeapbonbbacaaGreatDoorZr7
import Derived.Deep.LoopGhost
import Derived.Test.YtedeapbonbbacaaGreatDoorZr4
open Go.Lib renaming hid → QA
open List renaming mem_singleton → QB, length_append → QS, length_map → QV, getElem?_eq_getElem → ZH, eq_nil_of_length_eq_zero → ZX, mem_cons → ZY
open Nat renaming le_refl → QM, le_trans → QQ, reduceAdd → QW
namespace Go.Proofs.YtedeapbonbbacaaGreatDoor
set_option maxRecDepth 100000
set_option maxHeartbeats 4000000
set_option linter.unusedSimpArgs false
set_option linter.unusedVariables false
open Go Go.RowKit
namespace Vl
mutual
def Z.d:Z→D
 | .mk k t items fields a=>.obj [.int k,.str t,.seq 5 (Z.dl items),.seq 7 (ZA.dl fields),.int a]
def Z.dl:List Z→List D
 | []=>[]
 | x::r=>Z.d x::Z.dl r
def ZA.d:ZA→D
 | .mk n v a=>.obj [.str n,Z.d v,.int a]
def ZA.dl:List ZA→List D
 | []=>[]
 | x::r=>ZA.d x::ZA.dl r
end
theorem Z.dl_map:∀l:List Z,Z.dl l=l.map Z.d
 | []=>by rw[Z.dl];rfl
 | x::r=>by rw[Z.dl,Z.dl_map r];rfl
theorem ZA.dl_map:∀l:List ZA,ZA.dl l=l.map ZA.d
 | []=>by rw[ZA.dl];rfl
 | x::r=>by rw[ZA.dl,ZA.dl_map r];rfl
end Vl
section
variable {w : World} {P : Nat → Prop}
theorem Reads.el {k:Nat} {xs:List D} {a:Option Addr} {n c:Nat} (h:Reads w P (.seq k xs) [.slice a n c]):∀(j:Nat) d,xs[j]?=some d→∃g o cs,a=some ⟨g,o,none⟩∧P g∧g<w.heap.size∧cs.length=k ∧
  (∀(q:Nat) v,cs[q]?=some v→w.cell? ⟨g,o+j*k+q,none⟩=some v)∧Reads w P d cs:=by
 obtain⟨A,C,e,B⟩:=h.seq_inv;obtain⟨rfl,rfl,rfl⟩:a=A∧n=xs.length∧c=C:=by simpa using e
 intro j d hj;have:=B.at j d hj;rw[Nat.zero_add]at this;exact this
theorem Kf {v:Vl.Z} {cs:List Value} (h:Reads w P v.d cs):∃(a1 a2:Option Addr) (c1 c2:Nat),cs=[.int .i64 v.kind,.string ⟨v.text.toArray⟩,.slice a1 v.items.length c1,.slice a2 v.fields.length c2,.int .i64 v.at_] ∧
  Reads w P (.seq 5 (v.items.map Vl.Z.d)) [.slice a1 v.items.length c1]∧Reads w P (.seq 7 (v.fields.map Vl.ZA.d)) [.slice a2 v.fields.length c2]:=by
 cases v with
 | mk k t is fs a =>
  unfold Vl.Z.d at h;rw[Vl.Z.dl_map,Vl.ZA.dl_map]at h;obtain⟨S,T,rfl,C,J⟩:=h.obj_inv.cons_inv;obtain⟨V,Q,rfl,I,K⟩:=J.cons_inv;obtain⟨R,M,rfl,o,F⟩:=K.cons_inv;obtain⟨U,N,rfl,A,D⟩:=F.cons_inv;obtain⟨O,L,rfl,B,H⟩:=D.cons_inv;obtain rfl:=C.int_inv;obtain rfl:=I.str_inv;obtain⟨b3,G,rfl,_⟩:=o.seq_inv;obtain⟨b4,E,rfl,_⟩:=A.seq_inv;obtain rfl:=B.int_inv;obtain rfl:=H.nil_inv;simp only[QV]at o A ⊢;exact⟨b3,b4,G,E,rfl,o,A⟩
end
def Ko (z:Vl.Z) (a1 a2:Option Addr) (n1 n2:Nat):Array Value:=#[.int .i64 z.kind,.string ⟨z.text.toArray⟩,.slice a1 z.items.length n1,.slice a2 z.fields.length n2,.int .i64 z.at_]
theorem KN:(Tryz.prog.info? 9).map (λi=>(i.zero,i.size,i.bytes))=some (some (.string ⟨#[]⟩),1,16):=by kernel_rfl
def strCells (l:List (List UInt8)):List Value:=l.map λs=>.string ⟨s.toArray⟩
theorem Ga {w:World} {base n:Nat} {v:Value} {ls:List (List UInt8)} (h:w.ownsRow base 9 1 v n (strCells ls)) (hn:ls.length=n):BB w v ls:=by
 subst hn;rcases Nat.eq_zero_or_pos ls.length with h0|h0
 ·rcases h.2 with⟨h4,h5⟩|⟨g,cap,cur,hv,hg,hc,h6⟩
  ·have:ls=[]:=ZX h0;subst this;exact⟨none,0,h4,λi s hi=>by simp at hi⟩
  ·refine⟨_,_,hv,λi s hi=>?_⟩;have:ls=[]:=ZX h0;subst this;simp at hi
 ·obtain⟨g,c,rfl,-,o⟩:=Au h h0;refine⟨_,_,rfl,λi s hi=>⟨g,0,rfl,o,?_⟩⟩;have:=AG h i (.string ⟨s.toArray⟩) (by unfold strCells;rw[List.getElem?_map,hi];rfl);rw[Nat.zero_add];exact this
theorem Hx (w:World) (va vb:Value) (la lb:List (List UInt8)) (ha:BB w va la) (hb:BB w vb lb) (hl:la.length≤1000000) :
  Calls Tryz.prog 10 #[va,vb] w λr w'=>r=.returned (.bool (decide (la=lb)))∧∃n,w'=w.drewN n:=by
 obtain⟨Y,ca,rfl⟩:=ha.form;obtain⟨ab,cb,rfl⟩:=hb.form;have P:=QA ha;have T:=QA hb;clear ha hb;go_enter Tryz.func10,Tryz.ntmps10;by_cases hle:la.length=lb.length
 ·have N:((la.length:Int) != (lb.length:Int))=false:=neF (by omega);have o:=QA hle;have Q:lb.length≤1000000:=by omega
  clear hle;go_wp2_with fail
  go_loopg [13] (la.length+1) (λk i wr=>∃j n,k=la.length+1-j∧j≤la.length∧i=.int .i64 j∧la.take j=lb.take j∧wr=w.drewN n)
  case atStart=>exact⟨0,0,rfl,Nat.zero_le _,rfl,by simp,rfl⟩
  case round =>
   obtain⟨j,n,I,U,rfl,C,rfl⟩:=hrel;have O:=QA I;have H:=QA C;clear I C;by_cases hjl:j<la.length
   ·have R:decide (j<la.length)=true:=decide_eq_true hjl;have B:j<lb.length:=by have:=o.out;omega
    obtain⟨x,hx⟩:∃z,la[j]?=some z:=⟨la[j],ZH hjl⟩
    obtain⟨y,G⟩:∃z,lb[j]?=some z:=⟨lb[j],ZH B⟩
    obtain⟨W,V,rfl,-,k1⟩:=P.out.at hx;obtain⟨b2,X,rfl,-,Z⟩:=T.out.at G;have J:=QA hx;have L:=QA G;clear hx G;go_wp2_with fail;refine AO [] (by kernel_rfl) (by kernel_rfl) ?_;simp only[BM,List.take_succ_cons,List.take_zero,List.drop_succ_cons,List.drop_zero,Nat.sub_zero,Nat.reduceSub,QW]
    repeat (go_big_quiet_step (fail))
    refine wpQuiet_nil ?_;rintro _ ⟨nq,rfl⟩;obtain⟨q,F⟩:∃q,q=(!(x==y)):=⟨_,rfl⟩
    rw[← F];have M:=QA F;clear F;cases q
    ·have D:Hid (x=y):=QA (by have:=M.out;simpa using this);go_wp2_with fail;go_roundg (la.length+1-(j+1))
     case measure=>rw[O.out];omega
     case rel =>
      have e:la.take (j+1)=lb.take (j+1):=by rw[List.take_add_one,List.take_add_one,J.out,L.out,H.out,D.out]
      exact⟨j+1,n+nq,rfl,hjl,by go_num,e,by simp[World.drewN,Nat.add_assoc]⟩
    ·have S:Hid (¬la=lb):=QA (λh=>(show ¬x=y by have:=M.out;simpa using this) (by have A:=J.out;rw[h,L.out]at A;exact (Option.some.inj A).symm));go_wp2_with fail;go_ret;exact⟨by rw[decide_eq_false S.out];rfl,n+nq,by simp[World.drewN,Nat.add_assoc]⟩
   ·have R:decide (j<la.length)=false:=decide_eq_false hjl;have K:la=lb:=by
     have A:=H.out;rw[show j=la.length by omega,List.take_length]at A;rw[o.out,List.take_length]at A;exact A
    have E:=QA K;clear K;go_wp2_with fail;go_ret;exact⟨by rw[decide_eq_true E.out];rfl,_,rfl⟩
 ·have N:((la.length:Int) != (lb.length:Int))=true:=neT (by omega);have o:=QA hle;clear hle;go_wp2_with fail;go_ret;exact⟨by rw[decide_eq_false (λh=>o.out (by rw[h]))];rfl,0,rfl⟩
theorem Cg (b g:Nat) (fixed:Bool):∀(n:Nat),n≤1600→∀(s:Rd.St) (w:World),AL w b g s→s.rest.length≤n→0≤s.deep∧s.deep+n≤900000 →
  Calls Tryz.prog 68 #[.pointer (some ⟨b,0,none⟩),.bool fixed] w (Got b g w (Rd.value fixed (n+1) s).2.d (Rd.value fixed (n+1) s).1)
 | 0,hnb,s,w,h,hn,hd=>Dk b g fixed 0 s w h hn hnb hd (λm hm=>absurd hm (by omega))
 | n+1,hnb,s,w,h,hn,hd=>Dk b g fixed (n+1) s w h hn hnb hd (λm hm s' w' h' hn' hd'=>by
  obtain rfl:n=m:=by omega
  exact Cg b g fixed n (by omega) s' w' h' hn' hd')
theorem Gf (b g:Nat) (fixed:Bool) (n:Nat) (hnb:n≤1600) (s:Rd.St) (w:World) (h:AL w b g s) (hn:s.rest.length≤n) (hd:0≤s.deep∧s.deep+n≤900000) :
  Calls Tryz.prog 93 #[.pointer (some ⟨b,0,none⟩),.bool fixed] w (Got b g w (Rd.arg fixed (n+1) s).2.d (Rd.arg fixed (n+1) s).1) :=
 GQ b g fixed (n+1) s w h (λw' hr'=>Cg b g fixed n hnb _ w' hr' (QQ ((Rd.ok_name s).trans (Rd.ok_want Rd.colon _)).len hn) (by rw[Rd.want_deep,Rd.name_deep];exact hd))
def JZ (b g:Nat) (w:World) (k:Nat) (ds:List D) (s:Rd.St) (r:Ending) (w':World):Prop :=
 ∃(a:Option Addr) (c:Nat),r=.returned (.slice a ds.length c)∧Reads w' (λx=>w.heap.size≤x) (.seq k ds) [.slice a ds.length c]∧AL w' b g s∧Fr b w w'
def abx (w0:World) (b:Nat) (fixed:Bool):List Box :=
 [(w0.heap.size,.cells #[.pointer (some ⟨b,0,none⟩)] 97 (0,0)),(w0.heap.size+1,.cells #[.bool fixed] 4 (0,0))]
def ALI (w0:World) (b g:Nat) (fixed:Bool) (m:Nat) (d1:Int) (s:Rd.St) (out:List Rd.A) (w:World):Prop :=
 LI w0 b g (w0.heap.size+1+1) (abx w0 b fixed) 30 BA 151 7 s (out.map Rd.A.d) w∧s.deep=d1∧s.rest.length≤m∧(s.err=0→out.length+s.rest.length≤1602)∧out.length≤1603
theorem ID (cap:Array Value) (w:World):Sem.run Tryz.prog (callFunc 92 cap) w=.ok (.enter 92 cap) w:=by kernel_rfl
theorem Cd (b g:Nat) (fixed:Bool) (n:Nat) (hnb:n≤1600) (s:Rd.St) (w:World) (h:AL w b g s) (hn:s.rest.length≤n) (hd:0≤s.deep∧s.deep+n≤900000) :
  Calls Tryz.prog 62 #[.pointer (some ⟨b,0,none⟩),.bool fixed] w (JZ b g w 7 ((Rd.args fixed (n+1) s).2.map Rd.A.d) (Rd.args fixed (n+1) s).1):=by
 have Q:=h.lt;have H:=QA h;have HN:=QA hn;obtain⟨d0,d1⟩:=hd;clear h hn;have D:LI w b g (w.heap.size+1+1) (abx w b fixed) 30 BA 151 7 s [] (((w.alloc (.cells #[.pointer (some ⟨b,0,none⟩)] 97)).alloc (.cells #[.bool fixed] 4)).alloc (.cells #[.slice none 0 0] 30)):=by
  have S:Below w.heap.size w (((w.alloc (.cells #[.pointer (some ⟨b,0,none⟩)] 97)).alloc (.cells #[.bool fixed] 4)).alloc (.cells #[.slice none 0 0] 30)) :=
   (((Below.refl _ _).alloc (QM _) _).alloc (by simp) _).alloc (by simp;omega) _
  refine⟨H.out.below S,λp hp=>?_,⟨.slice none 0 0,?_,AY.nil _ _ _ _ _⟩,But.of_below S,Q.1,Q.2,λp hp=>?_,by omega⟩
  ·unfold abx at hp;simp only[ZY,List.not_mem_nil,or_false]at hp;rcases hp with rfl|rfl
   ·show (((w.alloc _).alloc _).alloc _).heap[w.heap.size]?=_;rw[Lib.alloc_old _ _ _ (by simp;omega),Lib.alloc_old _ _ _ (by simp)];exact AC _ _
   ·show (((w.alloc _).alloc _).alloc _).heap[w.heap.size+1]?=_;rw[Lib.alloc_old _ _ _ (by simp)];have:=AC (w.alloc (.cells #[.pointer (some ⟨b,0,none⟩)] 97)) (.cells #[.bool fixed] 4)
    simpa using this
  ·have:=AC ((w.alloc (.cells #[.pointer (some ⟨b,0,none⟩)] 97)).alloc (.cells #[.bool fixed] 4)) (.cells #[.slice none 0 0] 30);rw[show ((w.alloc (.cells #[.pointer (some ⟨b,0,none⟩)] 97)).alloc (.cells #[.bool fixed] 4)).heap.size=w.heap.size+1+1 by simp]at this;exact this
  ·unfold abx at hp;simp only[ZY,List.not_mem_nil,or_false]at hp;rcases hp with rfl|rfl<;>(simp only;omega)
 have R:=QA D;have P:=D.cellx (t:=w.heap.size) (v:=.pointer (some ⟨b,0,none⟩)) (T:=97) (by simp[abx]);clear D;go_enter Tryz.func62,Tryz.ntmps62;go_wp2_with fail;refine (BC b g s Rd.lpar _ R.out.rd).mono ?_;rintro r w1 ⟨rfl,h1,f1⟩;have o:=QA (R.out.step h1 f1);clear h1 f1 P;obtain⟨B,hB⟩:∃B,B=Rd.isS s Rd.lpar:=⟨_,rfl⟩
 have X:=QA hB;rw[← hB];clear hB;cases B
 ·have HE:Hid (Rd.args fixed (n+1) s=(s,[])):=by
   unfold Rd.args;rw[if_neg (by rw[← X.out];simp)];exact QA rfl
  have HT:Hid (Rd.take Rd.lpar s=s):=by
   unfold Rd.take;rw[if_neg (by rw[← X.out];simp)];exact QA rfl
  obtain⟨v,K,G⟩:=o.out.ex;obtain⟨N,I,rfl⟩:=G.form;have k3:=AA K 0 (.slice N 0 I) rfl;have W:=QA G;clear K G;go_wp2_with fail;go_ret;rw[HE.out];refine⟨N,I,rfl,?_,by have:=o.out.rd;rw[HT.out]at this;exact this,o.out.fr⟩;exact W.out.reads.to (AD.sub w1 (λx _ hp=>by
   rcases hp with hp|hp
   ·have:=hp.1;show w.heap.size≤x;omega
   ·have:=QQ (BN _ _) (W.out.lt x hp).1;show w.heap.size≤x;omega))
 ·have HT:Hid (Rd.take Rd.lpar s=Rd.next s):=by
   unfold Rd.take;rw[if_pos X.out.symm];exact QA rfl
  have HE:Hid (Rd.args fixed (n+1) s=(Rd.want Rd.rpar (Rd.loop1 Rd.rpar (Rd.arg fixed (n+1)) (n+1) (Rd.next s)).1,(Rd.loop1 Rd.rpar (Rd.arg fixed (n+1)) (n+1) (Rd.next s)).2)):=by
   unfold Rd.args;rw[if_pos X.out.symm];exact QA rfl
  have J:Hid (LI w b g (w.heap.size+1+1) (abx w b fixed) 30 BA 151 7 (Rd.next s) [] w1):=by rw[← HT.out];exact o
  have O:=QA (Rd.next_sign X.out.symm);have U:Hid (∀(s1:Rd.St) (out:List Rd.A) (w1:World),LI w b g (w.heap.size+1+1) (abx w b fixed) 30 BA 151 7 s1 (out.map Rd.A.d) w1→s1.rest.length≤n→s1.deep=s.deep→out.length≤1000000 →
    Calls Tryz.prog 92 #[.pointer (some ⟨w.heap.size+1+1,0,none⟩),.pointer (some ⟨w.heap.size,0,none⟩),.pointer (some ⟨w.heap.size+1,0,none⟩)] w1 λr w'=>r=.returned (.tuple #[]) ∧
     LI w b g (w.heap.size+1+1) (abx w b fixed) 30 BA 151 7 (Rd.arg fixed (n+1) s1).1 ((out++[(Rd.arg fixed (n+1) s1).2]).map Rd.A.d) w') :=
   QA λs1 out w1 hl hr hdp ho=>by
    rw[List.map_append];exact IK w b g (w.heap.size+1+1) (abx w b fixed) w.heap.size (w.heap.size+1) fixed (n+1) (by simp[abx]) (by simp[abx]) s1 (out.map Rd.A.d) w1
     (λw2 hr2=>Gf b g fixed n hnb s1 w2 hr2 hr (by rw[hdp];omega)) hl (by rw[QV];exact ho)
  have V:Hid (∀s,(Rd.arg fixed (n+1) s).1.deep=s.deep):=QA (Rd.argOf_deep _ (Rd.value_deep fixed (n+1)));have M:Hid (∀s,Rd.Ok s (Rd.arg fixed (n+1) s).1):=QA (Rd.ok_argOf _ (Rd.ok_value fixed (n+1)));have Y:=QA (Rd.next_deep s);have F:=QA (λs1 he=>Rd.arg_goes fixed (n+1) s1 he);have ag:(Rd.next s).rest.length+1≤n:=by have:=O.out.1;have:=HN.out;omega
  have P:w1.cell? ⟨w.heap.size,0,none⟩=some (.pointer (some ⟨b,0,none⟩)):=J.out.cellx (T:=97) (by simp[abx]);go_wp2_with fail;refine (CY Rd.rpar (Rd.arg fixed (n+1)) (ALI w b g fixed n s.deep) b g _ _ (ID _) (λs out w' h=>h.1.rd) (λs out w1 w2 h hb=>⟨h.1.below hb,h.2⟩) (λs1 out w2 h he=>?_) (λs1 out w2 h he _=>F.out s1 he) (n+1) (Rd.next s) w1 ?_ ?_).mono ?_
  ·refine (U.out s1 out w2 h.1 h.2.2.1 h.2.1 (by have:=h.2.2.2.2;omega)).mono ?_;rintro r w3 ⟨hre,hli⟩;refine⟨hre,hli,by rw[V.out];exact h.2.1,QQ (M.out s1).len h.2.2.1,λhe2=>?_,by have:=h.2.2.2.1 he;rw[QS];simp;omega⟩;rcases F.out s1 he with hx|hx
   ·exact absurd he2 hx
   ·have:=h.2.2.2.1 he;rw[QS];simp;omega
  ·refine (U.out (Rd.next s) [] w1 J.out (by omega) Y.out (by simp)).mono ?_;rintro r w3 ⟨hre,hli⟩;have ae:=(M.out (Rd.next s)).len;exact⟨hre,hli,by rw[V.out];exact Y.out,by omega,λ_=>by simp;omega,by simp⟩
  ·rcases F.out (Rd.next s) O.out.2 with hx|hx
   ·exact .inl hx
   ·exact .inr (by omega)
  rintro r w5 ⟨rfl,hL⟩;obtain⟨L,E⟩:∃x,x=Rd.loop1 Rd.rpar (Rd.arg fixed (n+1)) (n+1) (Rd.next s):=⟨_,rfl⟩
  rw[← E]at hL;have ab:=QA E;have Z:=QA hL;clear P E hL;have P:w5.cell? ⟨w.heap.size,0,none⟩=some (.pointer (some ⟨b,0,none⟩)):=Z.out.1.cellx (T:=97) (by simp[abx]);go_wp2_with fail;refine (BE b g L.1 Rd.rpar w5 Z.out.1.rd).mono ?_;rintro r w6 ⟨rfl,h6,f6⟩;have C:=QA (Z.out.1.step h6 f6);obtain⟨v,K,G⟩:=C.out.ex;obtain⟨N,I,rfl⟩:=G.form;have k3:=AA K 0 (.slice N (L.2.map Rd.A.d).length I) rfl;have W:=QA G;clear K G h6 f6 P;go_wp2_with fail;go_ret;rw[HE.out,← ab.out];refine⟨N,I,by simp,?_,C.out.rd,C.out.fr⟩;exact W.out.reads.to (AD.sub w6 (λx _ hp=>by
   rcases hp with hp|hp
   ·have:=hp.1;show w.heap.size≤x;omega
   ·have:=QQ (BN _ _) (W.out.lt x hp).1;show w.heap.size≤x;omega))
structure GI (w0:World) (b g:Nat) (E:TypeId) (k:Nat) (s:Rd.St) (v:Value) (ds:List D) (w:World):Prop where
 rd:AL w b g s
 row:AY w (λx=>w0.heap.size≤x∧v.ownBlock≠some x) w0.heap.size E k v ds
 fr:Fr b w0 w
 lb:b<w0.heap.size
 lg:g<w0.heap.size
section
variable {w0 w w' w8 : World} {b g k : Nat} {E : TypeId} {s s' : Rd.St} {v v' : Value} {ds : List D} {d : D} {cs xs : List Value}
theorem GI.nil (h:AL w b g s) (E:TypeId) (k:Nat):GI w b g E k s (.slice none 0 0) [] w :=
 ⟨h,AY.nil _ _ _ _ _,But.refl _ _,h.lt.1,h.lt.2⟩
theorem GI.step (h:GI w0 b g E k s v ds w) (hr:AL w' b g s') (hf:Fr b w w'):GI w0 b g E k s' v ds w':=by
 have lb:=h.lb;have o:=h.fr.size;exact⟨hr,h.row.to ⟨hf.size,λx hx hp=>⟨hp,hf.block x hx (by omega)⟩⟩ (λx hx=>⟨λhp=>hp.2 hx,hf.block x (h.row.lt x hx).2 (by have:=(h.row.lt x hx).1;omega)⟩),h.fr.trans hf,h.lb,h.lg⟩
theorem GI.below (h:GI w0 b g E k s v ds w) (hb:Below w.heap.size w w'):GI w0 b g E k s v ds w':=h.step (h.rd.below hb) (But.of_below hb)
theorem GI.more (h:GI w0 b g E k s v ds w) (hx:w.ownsRow w0.heap.size E k v ds.length xs) (hR:AZ w (λx=>w0.heap.size≤x∧v.ownBlock≠some x) k ds xs) (hd:Reads w (λx=>w0.heap.size≤x∧v.ownBlock≠some x) d cs)
  (hlen:cs.length=k) (hg:w.grownBy w8 v.ownBlock) (hloc:v'.ownBlock=v.ownBlock∨v'.ownBlock=some w.heap.size) (hrow:w8.ownsRow w0.heap.size E k v' (ds.length+1) (xs++cs)):GI w0 b g E k s v' (ds++[d]) w8:=by
 have lb:=h.lb;have lg:=h.lg;have C:=hx.lt;have B:∀x,x<w.heap.size→v.ownBlock≠some x→w8.heap[x]?=w.heap[x]?:=λx hx3 hn=>hg.block x hx3 (λe=>hn e.symm)
 have o:∀x,x<w0.heap.size→v.ownBlock≠some x:=λx hx2 e=>by have:=C x e;omega
 have A:AD w (λx=>w0.heap.size≤x∧v.ownBlock≠some x) w8 (λx=>w0.heap.size≤x∧v'.ownBlock≠some x):=⟨hg.size,λx hx2 hp=>⟨⟨hp.1,λe=>by
  rcases hloc with e2|e2
  ·exact hp.2 (by rw[← e2];exact e)
  ·rw[e2]at e;simp only[Option.some.injEq]at e;omega⟩,B x hx2 hp.2⟩⟩
 refine⟨h.rd.to hg.size (B b h.rd.lt.1 (o b lb)) (B g h.rd.lt.2 (o g lg)),⟨⟨xs++cs,?_,(hR.to A).snoc (hd.to A) hlen⟩,λx e hp=>hp.2 e⟩,⟨hg.os.trans h.fr.os,hg.tape.trans h.fr.tape,hg.output.trans h.fr.output,QQ h.fr.size hg.size,λx hx3 hxb=>by rw[B x (Nat.lt_of_lt_of_le hx3 h.fr.size) (o x hx3)];exact h.fr.block x hx3 hxb⟩,lb,lg⟩;rw[QS];exact hrow
theorem GI.reads (h:GI w0 b g E k s v ds w):Reads w (λx=>w0.heap.size≤x) (.seq k ds) [v] :=
 h.row.reads.to (AD.sub w (λx _ hp=>by
  rcases hp with hp|hp
  ·exact hp.1
  ·exact (h.row.lt x hp).1))
theorem GI.data (h:GI w0 b g E k s v ds w) (hd:Reads w' (λx=>w.heap.size≤x) d cs):Reads w' (λx=>w0.heap.size≤x∧v.ownBlock≠some x) d cs :=
 hd.to (AD.sub w' (λx _ hp=>⟨QQ h.fr.size hp,λe=>by have o:=(h.row.lt x e).2;have A:w.heap.size≤x:=hp;omega⟩))
end
theorem Cf {s:ByteArray}:∀{ts:List Lx.Tok} {p q:Nat},CF s p ts q→∀t∈ts,t.kind≤5∧1≤t.kind∧t.at_<s.size
 | [],_,_,_,t,ht=>by simp at ht
 | x::ts,p,q,h,t,ht=>by
  rcases ZY.1 ht with rfl|ht
  ·exact⟨h.1.k5,h.1.k1,h.1.hi⟩
  ·exact Cf h.2 t ht
theorem I8 {l:List UInt8} {ts:List Lx.Tok} (h:Lx.lex l=.ok ts):l.length≤4096:=by
 unfold Lx.lex at h;split at h
 ·cases h
 ·omega
theorem Jm {s:ByteArray} {ts:List Lx.Tok} (h:Lx.lex s.data.toList=.ok ts) (hs:Std s ts):Je ts∧0<ts.length:=by
 have F:s.size≤4096:=I8 h;obtain⟨o,rfl,B⟩:=hs.chain;have G:∀t∈o,t.text.length≤1000000000:=by
  have D:=h;unfold Lx.lex at D;rw[if_neg (by have:s.data.toList.length=s.size:=rfl;omega)]at D;obtain⟨A,e,E⟩:=Lx.lexGo_good _ _ _ _ _ (by have:s.data.toList.length=s.size:=rfl;omega) D;rw[List.nil_append]at e;have:o=A:=(List.append_inj_left' e rfl)
  subst this;exact λt ht=>(E t ht).2
 have C:∀t∈o++[(⟨0,[],s.size⟩:Lx.Tok)],t∈o∨t=⟨0,[],s.size⟩:=λt ht=>by simpa using ht
 refine⟨⟨hs.len,λt ht=>?_,λt ht=>?_,λt ht=>?_,λt ht=>?_⟩,by simp⟩
 ·rw[QS,List.length_singleton,Nat.add_sub_cancel,List.getElem?_append_right (QM _),Nat.sub_self]at ht;simp at ht;rw[← ht]
 ·rcases C t ht with h|rfl
  ·exact (Cf B t h).1
  ·simp
 ·rcases C t ht with h|rfl
  ·exact G t h
  ·simp
 ·rcases C t ht with h|rfl
  ·have:=(Cf B t h).2.2;omega
  ·exact F
def G7 (l:List UInt8):Prop:=∀ts,Lx.lex l=.ok ts→Std ⟨l.toArray⟩ ts
def FM (l:List UInt8) (w:World) (r:Ending) (w':World):Prop :=
 Below w.heap.size w w'∧G7 l∧∃(g cap:Nat) (ts:List Lx.Tok) (a e:Nat),r=.returned (.agg #[.slice (some ⟨g,0,none⟩) ts.length cap,.int .i64 0,.int .i64 0,.int .i64 a,.int .i64 e])∧w.heap.size≤g∧BH w' g ts∧Je ts∧0<ts.length ∧
  Rd.begin_ l=⟨ts,0,a,e⟩
theorem FM.rdAt {l:List UInt8} {w:World} {b g cap:Nat} {ts:List Lx.Tok} {a e:Nat} {T:TypeId} (hb:w.heap[b]?=some (.cells #[.slice (some ⟨g,0,none⟩) ts.length cap,.int .i64 0,.int .i64 0,.int .i64 a,.int .i64 e] T (0,0)))
  (hr:BH w g ts) (hne:g≠b) (hok:Je ts) (hpos:0<ts.length) (hbg:Rd.begin_ l=⟨ts,0,a,e⟩):AL w b g (Rd.begin_ l):=by
 rw[hbg];exact⟨⟨T,cap,ts,0,hb,hr,rfl,hpos,hok⟩,hne⟩
theorem Ep {w w1:World} (hb:Below w.heap.size w w1) (cs:List Value):Below w.heap.size w (putCells w1 w.heap.size 0 cs):=by
 have o:=Ak w.heap.size cs 0 w1;exact⟨o.1.trans hb.os,o.2.1.trans hb.tape,o.2.2.trans hb.output,by rw[AV];exact hb.size,λk hk=>by rw[AX _ _ (by omega)];exact hb.block k hk⟩
theorem Hm {w1:World} {g x:Nat} {ts:List Lx.Tok} (h:BH w1 g ts) (hne:g≠x) (cs:List Value):BH (putCells w1 x 0 cs) g ts :=
 h.heap (by rw[AV];exact QM _) (AX _ _ hne _ _ _)
theorem row_one (w:World) (T:TypeId):BH (w.alloc (.cells #[.int .i64 0,.string ⟨#[]⟩,.int .i64 0] T)) w.heap.size [⟨0,[],0⟩]:=by
 refine⟨by simp,λi t ht=>?_,λi t ht=>?_,λi t ht=>?_⟩ <;>
 ·have hi:i=0:=by have:=(List.getElem?_eq_some_iff.1 ht).1;simp at this;omega
  subst hi;simp at ht;subst ht;exact AK _ _ _ _ _ _ rfl
theorem JK:Je [(⟨0,[],0⟩:Lx.Tok)]:=⟨by simp,λt ht=>by simp at ht;rw[← ht],λt ht=>by simp at ht;subst ht;simp,λt ht=>by simp at ht;subst ht;simp,λt ht=>by simp at ht;subst ht;simp⟩
theorem JW (s:ByteArray) (w:World) (hs:s.size≤9223372036854775807) (hE:Env w) (h3:3≤w.heap.size) :
  Calls Tryz.prog 19 #[.string s] w (FM s.data.toList w):=by
 have HE:=QA hE;have C:Below w.heap.size w (w.alloc (.cells #[.slice none 0 0,.int .i64 0,.int .i64 0,.int .i64 0,.int .i64 0] 65)):=(Below.refl _ _).alloc (QM _) _;have P:=QA C;have ad:=C.size;clear hE;go_enter Tryz.func19,Tryz.ntmps19;go_wp2_with fail;refine (Jl s _ hs (HE.out.below C) (by omega)).mono ?_;rintro r w1 ⟨hb1,hres⟩;clear C;have D:=QA (P.out.trans (hb1.mono P.out.size));have I:Hid (w1.heap[w.heap.size]?=some (.cells #[.slice none 0 0,.int .i64 0,.int .i64 0,.int .i64 0,.int .i64 0] 65 (0,0))):=QA (by rw[hb1.block w.heap.size (by simp)];exact AC _ _);have Q:=QA hb1.size;clear hb1;obtain⟨V,U,T,W,X⟩:=LP I.out rfl rfl rfl rfl rfl;have f0:=AE I.out 0;have f1:=AE I.out 1;have f2:=AE I.out 2;have f3:=AE I.out 3;have f4:=AE I.out 4;rcases hres with⟨ts,v,hlx,rfl,ht,hstd⟩|⟨a,c,hlx,rfl,hc⟩
 ·obtain⟨N,H⟩:=Jm hlx hstd;obtain⟨g,B,rfl,hg,G⟩:=ht.openRow H;have O:Hid (G7 s.data.toList):=QA λts' h'=>by
   rw[hlx]at h';obtain rfl:=Lx.Res.ok.inj h';exact hstd
  have Y:=QA N;have E:=QA hlx;have L:=QA G;have S:=QA hg;clear N hlx G ht hstd hg;have A:g≠w.heap.size:=by have:=S.out;simp at this;omega
  have K:=QA (Ep D.out [.slice (some ⟨g,0,none⟩) ts.length B,.int .i64 0,.int .i64 0,.int .i64 0,.int .i64 0]);have J:=QA (Hm L.out A [.slice (some ⟨g,0,none⟩) ts.length B,.int .i64 0,.int .i64 0,.int .i64 0,.int .i64 0]);go_wp2_with fail;have R:=K.out;have M:=J.out;simp only[putCells,QW,Nat.zero_add]at R M;refine bodyPost_ret (v:=.agg #[.slice (some ⟨g,0,none⟩) ts.length B,.int .i64 0,.int .i64 0,.int .i64 0,.int .i64 0]) (by simp[results,Tryz.results19,go_sem,V,U,T,W,X]) rfl ?_;exact⟨R,O.out,g,B,ts,0,0,rfl,by have:=S.out;simp at this;omega,M,Y.out,H,by unfold Rd.begin_;rw[E.out]⟩
 ·have ae:((c:Int) != 0)=true:=neT (by omega);have F:Below w1.heap.size w1 (w1.alloc (.cells #[.int .i64 0,.string ⟨#[]⟩,.int .i64 0] 70)):=(Below.refl _ _).alloc (QM _) _;have K:=QA (Ep (D.out.trans (F.mono D.out.size)) [.slice (some ⟨w1.heap.size,0,none⟩) 1 1,.int .i64 0,.int .i64 0,.int .i64 a,.int .i64 c]);have A:w1.heap.size≠w.heap.size:=by have:=Q.out;simp at this;omega
  have n1:¬w1.heap.size=w.heap.size:=A;have n2:¬w.heap.size=w1.heap.size:=λe=>A e.symm
  have J:=QA (Hm (row_one w1 70) A [.slice (some ⟨w1.heap.size,0,none⟩) 1 1,.int .i64 0,.int .i64 0,.int .i64 a,.int .i64 c]);have E:=QA hlx;have Z:=QA D.out.size;have o:Hid ((w1.alloc (.cells #[.int .i64 0,.string ⟨#[]⟩,.int .i64 0] 70)).heap[w.heap.size]?=some (.cells #[.slice none 0 0,.int .i64 0,.int .i64 0,.int .i64 0,.int .i64 0] 65 (0,0))):=QA (by
   rw[Lib.alloc_old _ _ _ (by have:=Q.out;simp at this;omega)];exact I.out)
  clear F hlx V U T W X f0 f1 f2 f3 f4;obtain⟨V,U,T,W,X⟩:=LP o.out rfl rfl rfl rfl rfl;have f0:=AE o.out 0;have f1:=AE o.out 1;have f2:=AE o.out 2;have f3:=AE o.out 3;have f4:=AE o.out 4;go_wp2_with fail;have R:=K.out;have M:=J.out;simp only[putCells,QW,Nat.zero_add]at R M;refine bodyPost_ret (v:=.agg #[.slice (some ⟨w1.heap.size,0,none⟩) 1 1,.int .i64 0,.int .i64 0,.int .i64 a,.int .i64 c]) (by simp[results,Tryz.results19,go_sem,V,U,T,W,X]) rfl ?_;exact⟨R,(λts' h'=>by rw[E.out]at h';cases h'),w1.heap.size,1,[⟨0,[],0⟩],a,c,rfl,Z.out,M,JK,by simp,by unfold Rd.begin_;rw[E.out]⟩
def sds (l:List (List UInt8)):List D:=l.map D.str
structure BI (w0:World) (b g t6:Nat) (bx:List Box) (T6:TypeId) (c6:Array Value) (s:Rd.St) (w:World):Prop where
 rd:AL w b g s
 cb:∀p∈bx,w.heap[p.1]?=some p.2
 b6:w.heap[t6]?=some (.cells c6 T6 (0,0))
 fr:Fr b w0 w
 lb:b<w0.heap.size
 lg:g<w0.heap.size
 lx:∀p∈bx,w0.heap.size≤p.1∧p.1<t6
 l6:w0.heap.size≤t6
section
variable {w0 w w' : World} {b g t6 : Nat} {bx : List Box} {T6 : TypeId} {c6 : Array Value} {s s' : Rd.St}
theorem BI.step (h:BI w0 b g t6 bx T6 c6 s w) (hr:AL w' b g s') (hf:Fr b w w'):BI w0 b g t6 bx T6 c6 s' w':=by
 have lb:=h.lb;have l6:=h.l6;refine⟨hr,λp hp=>?_,?_,h.fr.trans hf,lb,h.lg,h.lx,l6⟩
 ·have o:=h.cb p hp;have A:=h.lx p hp;rw[hf.block p.1 (block_lt o) (by omega)];exact o
 ·rw[hf.block t6 (block_lt h.b6) (by omega)];exact h.b6
theorem BI.below (h:BI w0 b g t6 bx T6 c6 s w) (hb:Below w.heap.size w w'):BI w0 b g t6 bx T6 c6 s w':=h.step (h.rd.below hb) (But.of_below hb)
theorem BI.put (h:BI w0 b g t6 bx T6 c6 s w) (j:Nat) (v:Value):BI w0 b g t6 bx T6 (c6.setIfInBounds j v) s (w.setCell ⟨t6,j,none⟩ v):=by
 have lb:=h.lb;have lg:=h.lg;have l6:=h.l6;refine⟨h.rd.set_ne (by omega) (by omega) _ _,λp hp=>?_,Ai h.b6,h.fr.setCell (.inr l6) v,lb,lg,h.lx,l6⟩;have o:=h.lx p hp;rw[AJ (by omega)];exact h.cb p hp
theorem BI.cellx (h:BI w0 b g t6 bx T6 c6 s w) {t:Nat} {v:Value} {T:TypeId} (hp:(t,Obj.cells #[v] T (0,0))∈bx):w.cell? ⟨t,0,none⟩=some v:=by
 have:=h.cb _ hp;simp only at this;simp[World.cell?,this]
theorem BI.fin {d:D} {cs:List Value} {P:Nat→Prop} {r:Nat} {o:Obj} (h:BI w0 b g t6 bx T6 cs.toArray s w) (hr:(r,o)∈bx) (hd:Reads w P d cs) (hP:∀x,P x→t6<x) :
  Reads (putCells w r 0 cs) (λx=>w0.heap.size≤x) d cs∧AL (putCells w r 0 cs) b g s∧Fr b w0 (putCells w r 0 cs):=by
 have lb:=h.lb;have lg:=h.lg;have l6:=h.l6;have E:=h.lx _ hr;simp only at E;have B:∀x,x≠r→(putCells w r 0 cs).heap[x]?=w.heap[x]?:=λx h1=>AX _ _ h1 _ _ _
 have A:=AV r cs 0 w;have C:=Ak r cs 0 w;refine⟨hd.to ⟨by rw[A];exact QM _,λx hx hp=>⟨by have:=hP x hp;show w0.heap.size≤x;omega,B x (by have:=hP x hp;omega)⟩⟩,h.rd.to (by rw[A];exact QM _) (B b (by omega)) (B g (by omega)),⟨C.1.trans h.fr.os,C.2.1.trans h.fr.tape,C.2.2.trans h.fr.output,by rw[A];exact h.fr.size,λx hx hxb=>by
  rw[B x (by omega)];exact h.fr.block x hx hxb⟩⟩
end
namespace Sd
def In.d (x:In):D:=.obj [.str x.name,.str x.type,.bool x.has,x.dflt.d,.int x.at_]
def Fd.d (x:Fd):D:=.obj [.str x.name,.seq 9 (x.args.map In.d),.str x.type,.int x.at_]
def Td.d (x:Td):D:=.obj [.int x.kind,.str x.name,.seq 1 (sds x.impl),.seq 4 (x.fields.map Fd.d),.seq 1 (sds x.members),.seq 9 (x.inputs.map In.d),.int x.at_]
end Sd
def FLI {α:Type} (w0:World) (b g t6:Nat) (bx:List Box) (T6:TypeId) (mk:Value→Array Value) (E:TypeId) (k:Nat) (dd:α→D) (m:Nat) (d1:Int) (s:Rd.St) (out:List α) (w:World):Prop :=
 LI w0 b g t6 bx T6 mk E k s (out.map dd) w∧s.deep=d1∧s.rest.length≤m∧(s.err=0→out.length+s.rest.length≤1602)∧out.length≤1603
theorem BI.li {w0 w:World} {b g t6 k:Nat} {bx:List Box} {T6 E:TypeId} {mk:Value→Array Value} {s:Rd.St} (h:BI w0 b g t6 bx T6 (mk (.slice none 0 0)) s w):LI w0 b g t6 bx T6 mk E k s [] w :=
 ⟨h.rd,h.cb,⟨_,h.b6,AY.nil _ _ _ _ _⟩,h.fr,h.lb,h.lg,λp hp=>⟨(h.lx p hp).1,by have:=(h.lx p hp).2;omega⟩,h.l6⟩
theorem LI.bi {w0 w:World} {b g t6 k:Nat} {bx:List Box} {T6 E:TypeId} {mk:Value→Array Value} {s:Rd.St} {ds:List D} (h:LI w0 b g t6 bx T6 mk E k s ds w) {bx':List Box} (hs:∀p∈bx',p∈bx∧p.1<t6) :
  ∃a c,BI w0 b g t6 bx' T6 (mk (.slice a ds.length c)) s w∧Reads w (λx=>t6<x) (.seq k ds) [.slice a ds.length c]:=by
 obtain⟨v,A,o⟩:=h.ex;obtain⟨a,c,rfl⟩:=o.form;have B:=BN t6 bx;exact⟨a,c,⟨h.rd,λp hp=>h.cb p (hs p hp).1,A,h.fr,h.lb,h.lg,λp hp=>⟨(h.lx0 p (hs p hp).1).1,(hs p hp).2⟩,h.l6⟩,o.reads.to (AD.sub w (λx _ hp=>by
  rcases hp with hp|hp
  ·exact hp.1
  ·have:=(o.lt x hp).1;show t6<x;omega))⟩
theorem JS {w:World} {P:Nat→Prop} {x:Sd.In} {cs:List Value} (h:Reads w P x.d cs):∃(nm ty t:ByteArray) (hb:Bool) (k a b':Int) (a1 a2:Option Addr) (n1 c1 n2 c2:Nat),cs=[.string nm,.string ty,.bool hb,.int .i64 k,.string t,.slice a1 n1 c1,.slice a2 n2 c2,.int .i64 a,.int .i64 b']:=by
 unfold Sd.In.d at h;obtain⟨Q,R,rfl,B,H⟩:=h.obj_inv.cons_inv;obtain⟨T,N,rfl,F,I⟩:=H.cons_inv;obtain⟨O,K,rfl,A,D⟩:=I.cons_inv;obtain⟨S,L,rfl,G,C⟩:=D.cons_inv;obtain⟨M,J,rfl,o,E⟩:=C.cons_inv;obtain rfl:=B.str_inv;obtain rfl:=F.str_inv;obtain rfl:=A.bool_inv;obtain⟨k,a,t,a1,a2,n1,c1,n2,c2,rfl⟩:=Co G;obtain rfl:=o.int_inv;obtain rfl:=E.nil_inv;exact⟨_,_,_,_,_,_,_,_,_,_,_,_,_,rfl⟩
section
variable {w : World} {P : Nat → Prop}
end
namespace Qr
def Dir.d (x:Dir):D:=.obj [.str x.name,.seq 7 (x.args.map Rd.A.d),.int x.at_]
mutual
def Sel.d:Sel→D
 | .mk k al nm ar ds ss a=>.obj [.int k,.str al,.str nm,.seq 7 (ar.map Rd.A.d),.seq 3 (ds.map Dir.d),.seq 7 (Sel.dl ss),.int a]
def Sel.dl:List Sel→List D
 | []=>[]
 | x::r=>Sel.d x::Sel.dl r
end
theorem Sel.dl_map:∀l:List Sel,Sel.dl l=l.map Sel.d
 | []=>by rw[Sel.dl];rfl
 | x::r=>by rw[Sel.dl,Sel.dl_map r];rfl
def Vd.d (x:Vd):D:=.obj [.str x.name,.str x.type,.bool x.has,x.dflt.d,.int x.at_]
def Op.d (x:Op):D:=.obj [.int x.kind,.str x.name,.seq 9 (x.vars.map Vd.d),.seq 3 (x.dirs.map Dir.d),.seq 7 (x.sels.map Sel.d),.int x.at_]
def Fr.d (x:Fr):D:=.obj [.str x.name,.str x.on,.seq 3 (x.dirs.map Dir.d),.seq 7 (x.sels.map Sel.d),.int x.at_]
end Qr
def D.one:D→Bool
 | .obj _=>false
 | _=>true
theorem Reads.one_cell {w:World} {P:Nat→Prop} {d:D} {cs:List Value} (h:Reads w P d cs) (hd:d.one=true):∃v,cs=[v]:=by
 cases h with
 | int n=>exact⟨_,rfl⟩
 | str s=>exact⟨_,rfl⟩
 | bool b=>exact⟨_,rfl⟩
 | obj h=>cases hd
 | seq h=>exact⟨_,rfl⟩
theorem Af.set {w:World} {P:Nat→Prop} {d:D} {v:Value} (hv:Reads w P d [v]):∀{ds:List D} {cs:List Value} (j:Nat),Af w P ds cs→ds.all D.one=true→Af w P (ds.set j d) (cs.set j v)
 | [],_,j,.nil,_=>by cases j<;>exact .nil
 | x::ds,_,0,.cons h t,ho=>by
  rw[List.all_cons,Bool.and_eq_true]at ho;obtain⟨u,rfl⟩:=h.one_cell ho.1;exact .cons hv t
 | x::ds,_,j+1,.cons h t,ho=>by
  rw[List.all_cons,Bool.and_eq_true]at ho;obtain⟨u,rfl⟩:=h.one_cell ho.1;exact .cons h (Af.set hv j t ho.2)
structure FI (w0:World) (b g t6:Nat) (bx:List Box) (T6:TypeId) (ds:List D) (cs:List Value) (s:Rd.St) (w:World):Prop where
 bi:BI w0 b g t6 bx T6 cs.toArray s w
 rr:Af w (λx=>t6<x) ds cs
section
variable {w0 w w' : World} {b g t6 : Nat} {bx : List Box} {T6 : TypeId} {ds : List D} {cs : List Value} {s s' : Rd.St}
theorem FI.rd (h:FI w0 b g t6 bx T6 ds cs s w):AL w b g s:=h.bi.rd
theorem FI.step (h:FI w0 b g t6 bx T6 ds cs s w) (hr:AL w' b g s') (hf:Fr b w w'):FI w0 b g t6 bx T6 ds cs s' w' :=
 ⟨h.bi.step hr hf,h.rr.to ⟨hf.size,λx hx hp=>⟨hp,hf.block x hx (by have o:=h.bi.l6;have A:=h.bi.lb;have B:t6<x:=hp;omega)⟩⟩⟩
theorem FI.below (h:FI w0 b g t6 bx T6 ds cs s w) (hb:Below w.heap.size w w'):FI w0 b g t6 bx T6 ds cs s w':=h.step (h.rd.below hb) (But.of_below hb)
theorem FI.put (h:FI w0 b g t6 bx T6 ds cs s w) (j:Nat) {d:D} {v:Value} (hv:Reads w (λx=>t6<x) d [v]) (ho:ds.all D.one=true):FI w0 b g t6 bx T6 (ds.set j d) (cs.set j v) s (w.setCell ⟨t6,j,none⟩ v):=by
 refine⟨?_,(h.rr.set hv j ho).to ⟨by rw[AP];exact QM _,λx hx hp=>⟨hp,AJ (by have o:t6<x:=hp;omega)⟩⟩⟩;have:=h.bi.put j v
 rwa [List.setIfInBounds_toArray]at this
theorem FI.data (h:FI w0 b g t6 bx T6 ds cs s w) {d:D} {us:List Value} (hd:Reads w' (λx=>w.heap.size≤x) d us):Reads w' (λx=>t6<x) d us :=
 hd.to (AD.sub w' (λx _ hp=>by have o:=block_lt h.bi.b6;have A:w.heap.size≤x:=hp;show t6<x;omega))
theorem FI.fin {r:Nat} {o:Obj} (h:FI w0 b g t6 bx T6 ds cs s w) (hr:(r,o)∈bx) :
  Reads (putCells w r 0 cs) (λx=>w0.heap.size≤x) (.obj ds) cs∧AL (putCells w r 0 cs) b g s∧Fr b w0 (putCells w r 0 cs) :=
 h.bi.fin hr (.obj h.rr) (λx hx=>hx)
theorem FI.start {w1 w2:World} {T:TypeId} {zs:Array Value} (hr:AL w2 b g s) (hf:Fr b (w.alloc (.cells zs T)) w2) (hl:b<w.heap.size∧g<w.heap.size) (hw:w1=w2.alloc (.cells cs.toArray T6)) (hd:Af w1 (λx=>w2.heap.size<x) ds cs) :
  FI w b g w2.heap.size [(w.heap.size,.cells zs T (0,0))] T6 ds cs s w1:=by
 have A:=hf.size;have B:(w.alloc (.cells zs T)).heap.size=w.heap.size+1:=by simp
 have o:Below w2.heap.size w2 w1:=by rw[hw];exact (Below.refl _ _).alloc (QM _) _
 refine⟨⟨hr.below o,λp hp=>?_,by rw[hw];exact AC _ _,((But.of_below ((Below.refl _ _).alloc (QM _) _)).trans hf).trans (But.of_below o),hl.1,hl.2,λp hp=>?_,by omega⟩,hd⟩
 ·rw[QB.1 hp];show w1.heap[w.heap.size]?=_;rw[o.block w.heap.size (by omega),hf.block w.heap.size (by omega) (by omega)];exact AC _ _
 ·rw[QB.1 hp];show w.heap.size≤w.heap.size∧w.heap.size<w2.heap.size;omega
end
theorem J2:(Tryz.prog.info? 122).map (λi=>(i.zero,i.size,i.bytes))=some (some (.agg #[.string ⟨#[]⟩,.slice none 0 0,.int .i64 0]),3,48):=by kernel_rfl
theorem Ap (w:World) (c:List UInt8) (v:ByteArray) (T:TypeId) (hv:v=⟨c.toArray⟩):BB (w.alloc (.cells #[.string v] T)) (.slice (some ⟨w.heap.size,0,none⟩) 1 1) [c]:=by
 subst hv;exact Bh w [c] #[.string ⟨c.toArray⟩] T rfl
theorem Aq (b g n:Nat) (hnb:n≤1600) (s:Rd.St) (w:World) (h:AL w b g s) (hn:s.rest.length≤n) (hd:0≤s.deep∧s.deep+n≤900000) :
  Calls Tryz.prog 45 #[.pointer (some ⟨b,0,none⟩)] w (JZ b g w 3 ((Qr.dirs (n+1) s).2.map Qr.Dir.d) (Qr.dirs (n+1) s).1):=by
 obtain⟨i0,hi,aW,aG,aO⟩:=info_parts J2;have H:=QA h;have HL:=QA h.rest_len;obtain⟨d0,d1⟩:=hd;clear h;go_enter Tryz.func45,Tryz.ntmps45;go_wp2_with fail
 go_loopg [3] (s.rest.length+2) (λk s3 wr=>∃(m:Nat) (o:Rd.St) (C:List Qr.Dir),k=m+1∧o.rest.length<m∧C.length+o.rest.length≤1502∧o.rest.length≤n∧o.deep=s.deep∧GI w b g 122 3 o s3 (C.map Qr.Dir.d) wr∧Qr.dirsGo (n+1) m o C=Qr.dirs (n+1) s)
 case atStart=>exact⟨s.rest.length+1,s,[],rfl,by omega,by have:=HL.out;simp;omega,hn,rfl,GI.nil H.out _ _,rfl⟩
 case round =>
  obtain⟨m,o,C,rfl,hm,be,aY,ay,hG,ak⟩:=hrel;obtain⟨va,vc,hv⟩:=hG.row.form;rw[QV]at hv;subst hv;have R:=QA hG;have aA:=QA ak;have aj:=QA ay;have ax:Below wr.heap.size wr (wr.alloc (.cells #[.string ⟨#[64]⟩] 9)):=(Below.refl _ _).alloc (QM _) _;have G:=QA ax;clear hG ak ay ax;go_wp2_with fail;refine (Bn b g o _ [Qr.sAt] _ (R.out.rd.below G.out) (Ap wr Qr.sAt _ _ rfl) (by simp)).mono ?_;rintro r w2 ⟨rfl,hb2⟩;rw[show ([Qr.sAt].any (Rd.isS o))=Rd.isS o Qr.sAt by simp];have ae:=QA (But.of_below (X:=λk=>k=b) (G.out.trans (hb2.mono G.out.size)));have af:=QA (R.out.rd.below (G.out.trans (hb2.mono G.out.size)));obtain⟨B,hB⟩:∃B,B=Rd.isS o Qr.sAt:=⟨_,rfl⟩
  have HB:=QA hB;rw[← hB];obtain⟨m',rfl⟩:∃m',m=m'+1:=⟨m-1,by omega⟩
  clear hB hb2;cases B
  ·have HE:Hid (Qr.dirs (n+1) s=(o,C)):=by
    rw[← aA.out,Qr.dirsGo,if_neg (by rw[← HB.out];simp)];exact QA rfl
   go_wp2_with fail;go_ret;rw[HE.out];have aq:=R.out.step af.out ae.out;exact⟨va,vc,by rw[QV];rfl,by rw[QV];exact aq.reads,af.out,aq.fr⟩
  ·have aQ:=QA (Rd.next_sign HB.out.symm);have aN:Hid (Qr.dirsGo (n+1) m' (Qr.dir (n+1) o).1 (C++[(Qr.dir (n+1) o).2])=Qr.dirs (n+1) s):=by
    rw[← aA.out,Qr.dirsGo,if_pos HB.out.symm];exact QA rfl
   go_wp2_with fail;refine (Aa b g o w2 af.out).mono ?_;rintro r w3 ⟨rfl,Y,f3⟩;obtain⟨D,V⟩:∃x,x=(Rd.peek o).at_:=⟨_,rfl⟩
   rw[← V];have aT:=QA V;obtain⟨s3,aa⟩:∃x,x=Rd.next o:=⟨_,rfl⟩
   rw[← aa]at Y;have ab:=QA aa;have am:Hid (FI wr b g w3.heap.size [] 122 [.str [],.seq 7 [],.int D] [.string ⟨#[]⟩,.slice none 0 0,.int .i64 D] s3 (w3.alloc (.cells #[.string ⟨#[]⟩,.slice none 0 0,.int .i64 D] 122))):=by
    have ao:Below w3.heap.size w3 (w3.alloc (.cells #[.string ⟨#[]⟩,.slice none 0 0,.int .i64 D] 122)):=(Below.refl _ _).alloc (QM _) _;have h1:=ae.out.size;have h2:=f3.size;exact QA ⟨⟨Y.below ao,λp hp=>absurd hp (by simp),AC _ _,(ae.out.trans f3).trans (But.of_below ao),R.out.rd.lt.1,R.out.rd.lt.2,λp hp=>absurd hp (by simp),by omega⟩,.cons (.str []) (.cons (.seq (cap:=0) .nil) (.cons (.int _) .nil))⟩
   obtain⟨Q,ai⟩:∃x,x=w3.heap.size:=⟨_,rfl⟩
   clear Y f3 V aa;go_wp2_with fail;refine (Ac b g s3 _ am.out.rd).mono ?_;rintro r w4 ⟨rfl,h4,f4⟩;have J:=am.out.step h4 f4;rw[← ai]at J ⊢;clear ai;obtain⟨s4,S⟩:∃x,x=(Rd.name s3).1:=⟨_,rfl⟩
   obtain⟨E,Z⟩:∃x,x=(Rd.name s3).2:=⟨_,rfl⟩
   rw[← S]at J;rw[← Z];have aL:=QA J;have ad:=QA S;have aM:=QA Z;have I:=QA (J.put 0 (.str E) rfl);clear h4 f4 J S Z;obtain⟨y0,aF⟩:=cf1 aL.out.bi.b6 0 (.string ⟨#[]⟩);have av:Hid (Rd.Ok o s4):=by rw[ad.out,ab.out];exact QA ((Rd.ok_next o).trans (Rd.ok_name _))
   have aw:Hid (s4.deep=s.deep):=by rw[ad.out,Rd.name_deep,ab.out,Rd.next_deep];exact aj
   go_wp2_with fail;refine (Cd b g false n hnb s4 _ I.out.rd (QQ av.out.len aY) (by rw[aw.out];omega)).mono ?_;rintro r w5 ⟨a5,c5,rfl,hrd,P,f5⟩;obtain⟨q,hq⟩:∃x,x=Rd.args false (n+1) s4:=⟨_,rfl⟩
   rw[← hq]at hrd P ⊢;have HQ:=QA hq;have au:=QA (I.out.data hrd);have K:=QA (I.out.step P f5);have M:=QA (K.out.put 1 au.out rfl);clear hrd P f5 hq y0 aF;obtain⟨F,aB⟩:∃x,x=q.2.length:=⟨_,rfl⟩
   rw[QV,← aB]at au M ⊢;clear aB;have y0:=AA K.out.bi.b6 0 (.string ⟨E.toArray⟩) rfl;obtain⟨y1,bg⟩:=cf1 K.out.bi.b6 1 (.slice none 0 0);have y2:=AA K.out.bi.b6 2 (.int .i64 D) rfl;have ap:=QA (show Af (w5.setCell ⟨Q,1,none⟩ (.slice a5 F c5)) (λx=>Q<x) [.str E,.seq 7 (q.2.map Rd.A.d),.int D] [.string ⟨E.toArray⟩,.slice a5 F c5,.int .i64 D] from M.out.rr);have a1:=M.out.bi.l6;obtain⟨W,hW⟩:∃x,x=(w5.setCell ⟨Q,1,none⟩ (.slice a5 F c5)).alloc (.cells #[.string ⟨E.toArray⟩,.slice a5 F c5,.int .i64 D] 122):=⟨_,rfl⟩
   have O:Below (w5.setCell ⟨Q,1,none⟩ (.slice a5 F c5)).heap.size (w5.setCell ⟨Q,1,none⟩ (.slice a5 F c5)) W:=by rw[hW];exact (Below.refl _ _).alloc (QM _) _
   have U:=M.out.below O;have N:=R.out.step U.rd U.bi.fr;obtain⟨⟨xs,hx,az⟩,aH⟩:=N.row;rw[QV]at hx;have aK:=QA N;have HX:=QA hx;have aJ:=QA az;have aZ:Hid (Reads W (λx=>w.heap.size≤x∧(Value.slice va C.length vc).ownBlock≠some x) (Qr.Dir.d ⟨E,q.2,D⟩) [.string ⟨E.toArray⟩,.slice a5 F c5,.int .i64 D]):=by
    refine QA (R.out.data ((Reads.obj ap.out).to ?_));exact⟨O.size,λx hx2 hp=>⟨by have Y:Q<x:=hp;show wr.heap.size≤x;omega,O.block x hx2⟩⟩
   have al:=QA (Af.one ap.out);have an:Hid (∀j u,([.string ⟨E.toArray⟩,.slice a5 F c5,.int .i64 D]:List Value)[j]?=some u→W.cell? ((⟨w5.heap.size,0,none⟩:Addr).add j)=some u):=by
    have:=AU (w:=W) (L:=w5.heap.size) (fz:=(0,0)) (T:=122) (zs:=[.string ⟨E.toArray⟩,.slice a5 F c5,.int .i64 D]) (by rw[hW];have h9:=AC (w5.setCell ⟨Q,1,none⟩ (.slice a5 F c5)) (.cells #[.string ⟨E.toArray⟩,.slice a5 F c5,.int .i64 D] 122);rw[AP]at h9;exact h9);exact QA this
   have ac:w.heap.size≤W.heap.size:=N.fr.size;clear O U N hx az aH HL;subst hW;go_wp2_with (first|(at_builtin;refine wpList_append_own_at _ rfl _ _ 31 rfl w.heap.size 122 i0 _ 3 48 Tryz.underlying31 hi aW aG aO rfl (by decide) (.slice va C.length vc) C.length xs rfl HX.out ⟨w5.heap.size,0,none⟩ 1 1 [.string ⟨E.toArray⟩,.slice a5 F c5,.int .i64 D] rfl rfl an.out al.out (by unfold maxLen;omega) (by omega) ac ?_;intro v' w8 hrow8 hg8 hnil8 hloc8;clear hnil8;have ar:=QA hrow8;have aX:=QA hg8;have aP:=QA hloc8;clear hrow8 hg8 hloc8)|fail);go_roundg (m'+1)
   case measure=>omega
   case rel =>
    have hE:Qr.dir (n+1) o=(q.1,⟨E,q.2,D⟩):=by unfold Qr.dir;dsimp only;rw[← ab.out,← aM.out,← ad.out,← HQ.out,← aT.out]
    have h1:=aQ.out.1;have h2:=(Qr.ok_dir (n+1) o).len;have Y:=(Qr.dir_deep (n+1) o)
    have h4:=aN.out;have bf:(Rd.next o).rest.length<o.rest.length:=h1;have P:(Qr.dir (n+1) o).1.rest.length≤(Rd.next o).rest.length:=((Rd.ok_name (Rd.next o)).trans (Rd.ok_args false (n+1) _)).len;rw[hE]at h2 Y h4 P;refine⟨m',q.1,C++[⟨E,q.2,D⟩],rfl,by simp only at P;omega,by rw[QS];simp only[List.length_singleton]at P ⊢;omega,by simp only at P;omega,by rw[← aj.out];exact Y,?_,h4⟩;rw[List.map_append];exact aK.out.more (by rw[QV];exact HX.out) aJ.out aZ.out rfl aX.out aP.out (by rw[QV];exact ar.out)
theorem J9 (b g:Nat) (s:Rd.St) (w:World) (h:AL w b g s) :
  Calls Tryz.prog 43 #[.pointer (some ⟨b,0,none⟩)] w λr w'=>r=.returned (.string ⟨(Qr.but s).2.toArray⟩)∧AL w' b g (Qr.but s).1∧Fr b w w':=by
 have H:=QA h;have C:Below w.heap.size w (w.alloc (.cells #[.string ⟨#[111,110]⟩] 9)):=(Below.refl _ _).alloc (QM _) _;have A:=QA C;clear C h;go_enter Tryz.func43,Tryz.ntmps43;go_wp2_with fail;refine (An b g s _ [Qr.sOn] _ (H.out.below A.out) (Ap w Qr.sOn _ _ rfl) (by simp)).mono ?_;rintro r w2 ⟨rfl,hb2⟩;have o:=QA (A.out.trans (hb2.mono A.out.size));have I:=QA (H.out.below o.out);obtain⟨B,F⟩:∃B,B=Rd.isW s [Qr.sOn]:=⟨_,rfl⟩
 have J:=QA F;rw[← F];clear F hb2;cases B
 ·have G:Hid (Qr.but s=Rd.name s):=by unfold Qr.but;rw[if_neg (by rw[← J.out];simp)];exact QA rfl
  go_wp2_with fail;refine (Ac b g _ w2 I.out).mono ?_;rintro r w3 ⟨rfl,h3,f3⟩;have E:=QA h3;have D:=QA f3;clear h3 f3;go_wp2_with fail;go_ret;rw[G.out];exact⟨rfl,E.out,(But.of_below o.out).trans D.out⟩
 ·have G:Hid (Qr.but s=Rd.name (Rd.wrong s)):=by unfold Qr.but;rw[if_pos J.out.symm];exact QA rfl
  go_wp2_with fail;refine (A6 b g _ w2 I.out).mono ?_;rintro r w4 ⟨rfl,h4,f4⟩;have K:=QA h4;have L:=QA f4;clear h4 f4;go_wp2_with fail;refine (Ac b g _ w4 K.out).mono ?_;rintro r w3 ⟨rfl,h3,f3⟩;have E:=QA h3;have D:=QA f3;clear h3 f3;go_wp2_with fail;go_ret;rw[G.out];exact⟨rfl,E.out,((But.of_below o.out).trans L.out).trans D.out⟩
theorem C7 (b g:Nat) (n:Nat) (hnb:n≤1600) (s:Rd.St) (w:World) (h:AL w b g s) (hn:s.err≠0∨s.rest.length≤n) (hd:0≤s.deep∧s.deep+n≤900000) :
  Calls Tryz.prog 50 #[.pointer (some ⟨b,0,none⟩)] w (Got b g w (Qr.variable_ (n+1) s).2.d (Qr.variable_ (n+1) s).1):=by
 have bk:=h.lt;have H:=QA h;have HN:=QA hn;obtain⟨d0,d1⟩:=hd;have aY:Below w.heap.size w (w.alloc (.cells #[.string ⟨#[]⟩,.string ⟨#[]⟩,.bool false,.int .i64 0,.string ⟨#[]⟩,.slice none 0 0,.slice none 0 0,.int .i64 0,.int .i64 0] 107)):=(Below.refl _ _).alloc (QM _) _;have an:=QA aY;clear h hn aY;go_enter Tryz.func50,Tryz.ntmps50;go_wp2_with fail;refine (A3 b g s _ (H.out.below an.out)).mono ?_;rintro r w2 ⟨rfl,hb2⟩;obtain⟨C,av⟩:∃x,x=(Rd.peek s).at_:=⟨_,rfl⟩
 rw[← av];have ba:=QA av;have a7:BI w b g w2.heap.size [(w.heap.size,.cells #[.string ⟨#[]⟩,.string ⟨#[]⟩,.bool false,.int .i64 0,.string ⟨#[]⟩,.slice none 0 0,.slice none 0 0,.int .i64 0,.int .i64 0] 107 (0,0))] 107 #[.string ⟨#[]⟩,.string ⟨#[]⟩,.bool false,.int .i64 0,.string ⟨#[]⟩,.slice none 0 0,.slice none 0 0,.int .i64 0,.int .i64 C] s (w2.alloc (.cells #[.string ⟨#[]⟩,.string ⟨#[]⟩,.bool false,.int .i64 0,.string ⟨#[]⟩,.slice none 0 0,.slice none 0 0,.int .i64 0,.int .i64 C] 107)):=by
  have bL:(w.alloc (.cells #[.string ⟨#[]⟩,.string ⟨#[]⟩,.bool false,.int .i64 0,.string ⟨#[]⟩,.slice none 0 0,.slice none 0 0,.int .i64 0,.int .i64 0] 107)).heap.size=w.heap.size+1:=by simp
  have bM:=hb2.size;have ax:Below w2.heap.size w2 (w2.alloc (.cells #[.string ⟨#[]⟩,.string ⟨#[]⟩,.bool false,.int .i64 0,.string ⟨#[]⟩,.slice none 0 0,.slice none 0 0,.int .i64 0,.int .i64 C] 107)):=(Below.refl _ _).alloc (QM _) _;refine⟨((H.out.below an.out).below hb2).below ax,λp hp=>?_,AC _ _,((But.of_below an.out).trans (But.of_below hb2)).trans (But.of_below ax),bk.1,bk.2,λp hp=>?_,by omega⟩
  ·simp only[QB]at hp;subst hp;show (w2.alloc _).heap[w.heap.size]?=_;rw[ax.block w.heap.size (by omega),hb2.block w.heap.size (by omega)];exact AC _ _
  ·simp only[QB]at hp;subst hp;simp only;omega
 have aS:=QA a7;obtain⟨G,ao⟩:∃x,x=w2.heap.size:=⟨_,rfl⟩
 have bK:=QA ao;clear hb2 a7 av;go_wp2_with fail;refine (BE b g s Rd.dollar _ aS.out.rd).mono ?_;rintro r w1 ⟨rfl,h1,f1⟩;have aa:=aS.out.step h1 f1;rw[← ao]at aa ⊢;clear ao;obtain⟨s1,au⟩:∃x,x=Rd.want Rd.dollar s:=⟨_,rfl⟩
 rw[← au]at aa;have ae:=QA au;have a0:=QA aa;have bi:Hid (Rd.Ok s s1):=by rw[ae.out];exact QA (Rd.ok_want _ s)
 have aQ:Hid (s1.deep=s.deep):=by rw[ae.out];exact QA (Rd.want_deep _ s)
 clear h1 f1 aa au;go_wp2_with fail;refine (Ac b g s1 _ a0.out.rd).mono ?_;rintro r w3 ⟨rfl,h3,f3⟩;have ad:=a0.out.step h3 f3;obtain⟨s3,aD⟩:∃x,x=(Rd.name s1).1:=⟨_,rfl⟩
 obtain⟨F,az⟩:∃x,x=(Rd.name s1).2:=⟨_,rfl⟩
 rw[← aD]at ad;rw[← az];have ab:=QA aD;have aW:=QA az;have bl:=QA ad;have l6:=ad.lx _ (QB.2 rfl);simp only at l6;have n1:¬G=w.heap.size:=by omega
 have n2:¬w.heap.size=G:=by omega
 have aX:Hid (Rd.Ok s s3):=by rw[ab.out];exact QA (bi.out.trans (Rd.ok_name s1))
 have bf:Hid (s3.deep=s.deep):=by rw[ab.out,Rd.name_deep,aQ.out];exact QA rfl
 clear h3 f3 ad aD az;obtain⟨y0,J,y1,R,y2,S,y3,K,y4,M,y5,N,y6,P,y7,L,y8,O⟩:=cf9 bl.out.b6 (.string ⟨#[]⟩) (.string ⟨#[]⟩) (.bool false) (.int .i64 0) (.string ⟨#[]⟩) (.slice none 0 0) (.slice none 0 0) (.int .i64 0) (.int .i64 C);have aR:=QA (bl.out.put 0 (.string ⟨F.toArray⟩));go_wp2_with fail;refine (BE b g s3 Rd.colon _ aR.out.rd).mono ?_;rintro r w5 ⟨rfl,h5,f5⟩;have aq:=QA (aR.out.step h5 f5);obtain⟨s5,aE⟩:∃x,x=Rd.want Rd.colon s3:=⟨_,rfl⟩
 rw[← aE]at aq;have ac:=QA aE;have U:Hid (Rd.Ok s s5):=by rw[ac.out];exact QA (aX.out.trans (Rd.ok_want _ s3))
 have af:Hid (s5.deep=s.deep):=by rw[ac.out,Rd.want_deep,bf.out];exact QA rfl
 have bE:Hid (s5.err≠0∨s5.rest.length≤n):=by
  refine QA ?_;rcases HN.out with h|h
  ·left;rw[U.out.err h];exact h
  ·right;exact QQ U.out.len h
 clear h5 f5 aE;clear y0 J y1 R y2 S y3 K y4 M y5 N y6 P y7 L y8 O;go_wp2_with fail;refine (Ib b g n s5 w5 aq.out.rd bE.out hnb (by rw[af.out];omega)).mono ?_;rintro r w6 ⟨rfl,h6,f6⟩;obtain⟨A,aB⟩:∃x,x=(Rd.type (n+1) s5).1:=⟨_,rfl⟩
 obtain⟨I,ay⟩:∃x,x=(Rd.type (n+1) s5).2:=⟨_,rfl⟩
 have ap:=aq.out.step h6 f6;rw[← aB]at ap;rw[← ay];have Z:=QA aB;have bj:=QA ay;have a3:=QA ap;have ai:Hid (Rd.Ok s A):=by rw[Z.out];exact QA (U.out.trans (Rd.ok_type _ s5))
 have bb:Hid (A.deep=s.deep):=by rw[Z.out,Rd.type_deep,af.out];exact QA rfl
 clear h6 f6 ap aB ay;obtain⟨y0,J,y1,R,y2,S,y3,K,y4,M,y5,N,y6,P,y7,L,y8,O⟩:=cf9 a3.out.b6 (.string ⟨F.toArray⟩) (.string ⟨#[]⟩) (.bool false) (.int .i64 0) (.string ⟨#[]⟩) (.slice none 0 0) (.slice none 0 0) (.int .i64 0) (.int .i64 C);have bg:=QA (a3.out.put 1 (.string ⟨I.toArray⟩));go_wp2_with fail;refine (BC b g A Qr.sEq _ bg.out.rd).mono ?_;rintro r w8 ⟨rfl,h8,f8⟩;have am:=QA (bg.out.step h8 f8);obtain⟨B,hB⟩:∃B,B=Rd.isS A Qr.sEq:=⟨_,rfl⟩
 have HB:=QA hB;rw[← hB];have aZ:=QA (am.out.put 2 (.bool B));clear h8 f8 hB;clear y0 J y1 R y2 S y3 K y4 M y5 N y6 P y7 L y8 O;obtain⟨y0,J,y1,R,y2,S,y3,K,y4,M,y5,N,y6,P,y7,L,y8,O⟩:=cf9 am.out.b6 (.string ⟨F.toArray⟩) (.string ⟨I.toArray⟩) (.bool false) (.int .i64 0) (.string ⟨#[]⟩) (.slice none 0 0) (.slice none 0 0) (.int .i64 0) (.int .i64 C);obtain⟨z0,a4,z1,a9,z2,a6,z3,bd,z4,a8,z5,aU,z6,bc,z7,a5,z8,bh⟩:=cf9 (am.out.cb (w.heap.size,.cells #[.string ⟨#[]⟩,.string ⟨#[]⟩,.bool false,.int .i64 0,.string ⟨#[]⟩,.slice none 0 0,.slice none 0 0,.int .i64 0,.int .i64 0] 107 (0,0)) (by simp)) (.string ⟨#[]⟩) (.string ⟨#[]⟩) (.bool false) (.int .i64 0) (.string ⟨#[]⟩) (.slice none 0 0) (.slice none 0 0) (.int .i64 0) (.int .i64 0);cases B
 ·have HT:Hid (Rd.take Qr.sEq A=A):=by unfold Rd.take;rw[if_neg (by rw[← HB.out];simp)];exact QA rfl
  have HE:Hid (Qr.variable_ (n+1) s=(A,⟨F,I,false,Rd.V.none,C⟩)):=by
   have aw:Qr.dflt (n+1) A=(A,Rd.V.none):=by unfold Qr.dflt;rw[if_neg (by rw[← HB.out];simp)]
   refine QA ?_;unfold Qr.variable_
   dsimp only
   rw[← ae.out,← ab.out,← aW.out,← ac.out,← Z.out,← bj.out,← ba.out,← HB.out,aw]
  have aC:Hid (BI w b g G [(w.heap.size,.cells #[.string ⟨#[]⟩,.string ⟨#[]⟩,.bool false,.int .i64 0,.string ⟨#[]⟩,.slice none 0 0,.slice none 0 0,.int .i64 0,.int .i64 0] 107 (0,0))] 107 [.string ⟨F.toArray⟩,.string ⟨I.toArray⟩,.bool false,.int .i64 0,.string ⟨#[]⟩,.slice none 0 0,.slice none 0 0,.int .i64 0,.int .i64 C].toArray A (w8.setCell ⟨G,2,none⟩ (.bool false))):=by
   have:=aZ.out;rw[HT.out]at this;exact QA this
  have aj:Hid (Reads (w8.setCell ⟨G,2,none⟩ (.bool false)) (λ_=>False) (Qr.Vd.d ⟨F,I,false,Rd.V.none,C⟩) [.string ⟨F.toArray⟩,.string ⟨I.toArray⟩,.bool false,.int .i64 0,.string ⟨#[]⟩,.slice none 0 0,.slice none 0 0,.int .i64 0,.int .i64 C]):=by
   unfold Qr.Vd.d;exact QA (.obj (.cons (.str _) (.cons (.str _) (.cons (.bool _) (.cons (Ar _ 0 0 []) (.cons (.int _) .nil))))))
  have o:=aC.out.fin (r:=w.heap.size) (QB.2 rfl) aj.out (λx hx=>hx.elim);simp only[putCells,QW,Nat.zero_add]at o;have ar:=QA o;clear o;go_wp2_with fail;refine bodyPost_ret (v:=.agg #[.string ⟨F.toArray⟩,.string ⟨I.toArray⟩,.bool false,.int .i64 0,.string ⟨#[]⟩,.slice none 0 0,.slice none 0 0,.int .i64 0,.int .i64 C]) (by simp[results,Tryz.results50,go_sem,z0,z1,z2,z3,z4,z5,z6,z7,z8,n1,n2]) rfl ?_;rw[HE.out];exact⟨_,rfl,ar.out⟩
 ·have HT:Hid (Rd.take Qr.sEq A=Rd.next A):=by unfold Rd.take;rw[if_pos HB.out.symm];exact QA rfl
  have bz:=QA (Rd.next_sign HB.out.symm);have bA:Hid ((Rd.next A).rest.length≤n):=by
   refine QA ?_;have h6:=ai.out.len;have h7:=bz.out.1;rcases HN.out with h|h
   ·have:=ai.out.err h;have hz:=HB.out;rw[Rd.isS_err (by rw[this];exact h)]at hz;cases hz
   ·omega
  have X:Hid (BI w b g G [(w.heap.size,.cells #[.string ⟨#[]⟩,.string ⟨#[]⟩,.bool false,.int .i64 0,.string ⟨#[]⟩,.slice none 0 0,.slice none 0 0,.int .i64 0,.int .i64 0] 107 (0,0))] 107 #[.string ⟨F.toArray⟩,.string ⟨I.toArray⟩,.bool true,.int .i64 0,.string ⟨#[]⟩,.slice none 0 0,.slice none 0 0,.int .i64 0,.int .i64 C] (Rd.next A) (w8.setCell ⟨G,2,none⟩ (.bool true))):=by
   have:=aZ.out;rw[HT.out]at this;exact QA this
  have bF:=QA (Rd.next_deep A);go_wp2_with fail;refine (Cg b g true n hnb (Rd.next A) _ X.out.rd bA.out (by rw[bF.out,bb.out];omega)).mono ?_;rintro r w10 ⟨cs,rfl,hrd,hr10,hf10⟩;obtain⟨k,a,t,a1,a2,E,c1,D,c2,rfl⟩:=Co hrd;obtain⟨aA,W⟩:∃x,x=(Rd.value true (n+1) (Rd.next A)).1:=⟨_,rfl⟩
  obtain⟨aF,T⟩:∃x,x=(Rd.value true (n+1) (Rd.next A)).2:=⟨_,rfl⟩
  rw[← W]at hr10;rw[← T]at hrd;have be:=QA W;have aV:=QA T;have Y:=QA (X.out.step hr10 hf10);have bx:=block_lt X.out.b6;have bC:=QA (hrd.to (w':=putCells w10 G 3 [.int .i64 k,.string t,.slice a1 E c1,.slice a2 D c2,.int .i64 a]) (Q:=λx=>G<x) ⟨by rw[AV];exact QM _,λx hx hp=>⟨Nat.lt_of_lt_of_le bx hp,AX _ _ (by have:(w8.setCell ⟨G,2,none⟩ (.bool true)).heap.size≤x:=hp;omega) _ _ _⟩⟩);have HE:Hid (Qr.variable_ (n+1) s=(aA,⟨F,I,true,aF,C⟩)):=by
   have aw:Qr.dflt (n+1) A=(aA,aF):=by unfold Qr.dflt;rw[if_pos HB.out.symm,be.out,aV.out]
   refine QA ?_;unfold Qr.variable_
   dsimp only
   rw[← ae.out,← ab.out,← aW.out,← ac.out,← Z.out,← bj.out,← ba.out,← HB.out,aw]
  have aj:Hid (Reads (putCells w10 G 3 [.int .i64 k,.string t,.slice a1 E c1,.slice a2 D c2,.int .i64 a]) (λx=>G<x) (Qr.Vd.d ⟨F,I,true,aF,C⟩) [.string ⟨F.toArray⟩,.string ⟨I.toArray⟩,.bool true,.int .i64 k,.string t,.slice a1 E c1,.slice a2 D c2,.int .i64 a,.int .i64 C]):=by
   unfold Qr.Vd.d;exact QA (.obj (.cons (.str _) (.cons (.str _) (.cons (.bool _) (.cons bC.out (.cons (.int _) .nil))))))
  have aC:Hid (BI w b g G [(w.heap.size,.cells #[.string ⟨#[]⟩,.string ⟨#[]⟩,.bool false,.int .i64 0,.string ⟨#[]⟩,.slice none 0 0,.slice none 0 0,.int .i64 0,.int .i64 0] 107 (0,0))] 107 [.string ⟨F.toArray⟩,.string ⟨I.toArray⟩,.bool true,.int .i64 k,.string t,.slice a1 E c1,.slice a2 D c2,.int .i64 a,.int .i64 C].toArray aA (putCells w10 G 3 [.int .i64 k,.string t,.slice a1 E c1,.slice a2 D c2,.int .i64 a])) :=
   QA (((((Y.out.put 3 (.int .i64 k)).put 4 (.string t)).put 5 (.slice a1 E c1)).put 6 (.slice a2 D c2)).put 7 (.int .i64 a))
  have o:=aC.out.fin (r:=w.heap.size) (QB.2 rfl) aj.out (λx hx=>hx);simp only[putCells,QW,Nat.zero_add]at o;have ar:=QA o;clear y0 J z0 a4 y1 R z1 a9 y2 S z2 a6 y3 K z3 bd y4 M z4 a8 y5 N z5 aU y6 P z6 bc y7 L z7 a5 y8 O z8 bh;clear o hrd hr10 hf10 W T;obtain⟨y0,J,y1,R,y2,S,y3,K,y4,M,y5,N,y6,P,y7,L,y8,O⟩:=cf9 Y.out.b6 (.string ⟨F.toArray⟩) (.string ⟨I.toArray⟩) (.bool true) (.int .i64 0) (.string ⟨#[]⟩) (.slice none 0 0) (.slice none 0 0) (.int .i64 0) (.int .i64 C);obtain⟨z0,a4,z1,a9,z2,a6,z3,bd,z4,a8,z5,aU,z6,bc,z7,a5,z8,bh⟩:=cf9 (Y.out.cb _ (QB.2 rfl)) (.string ⟨#[]⟩) (.string ⟨#[]⟩) (.bool false) (.int .i64 0) (.string ⟨#[]⟩) (.slice none 0 0) (.slice none 0 0) (.int .i64 0) (.int .i64 0);go_wp2_with fail;refine bodyPost_ret (v:=.agg #[.string ⟨F.toArray⟩,.string ⟨I.toArray⟩,.bool true,.int .i64 k,.string t,.slice a1 E c1,.slice a2 D c2,.int .i64 a,.int .i64 C]) (by simp[results,Tryz.results50,go_sem,z0,z1,z2,z3,z4,z5,z6,z7,z8,n1,n2]) rfl ?_;rw[HE.out];exact⟨_,rfl,ar.out⟩
end Go.Proofs.YtedeapbonbbacaaGreatDoor
