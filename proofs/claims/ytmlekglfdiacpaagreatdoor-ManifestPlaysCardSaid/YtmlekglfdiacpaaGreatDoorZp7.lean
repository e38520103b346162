/-
  The document's file system: its rows in memory; names, walked. The document's file system: names with one as told, walked. The document's file system in memory; a step, walked. The document's file system: open, Used, walked.
-/
import Derived.Test.YtmlekglfdiacpaaGreatDoorZp5
import Derived.Test.YtmlekglfdiacpaaGreatDoorZp6
open Go.Lib renaming hid → QA
open List renaming drop_succ_cons → QE, take_succ_cons → QF, drop_zero → QL, take_zero → QN, length_append → QS, drop_eq_getElem_cons → ZB, drop_eq_nil_of_le → ZC, getElem?_eq_getElem → ZG, eq_nil_of_length_eq_zero → ZW
open Nat renaming le_refl → QM, le_trans → QQ, reduceAdd → QW
namespace Go.Proofs.YtmlekglfdiacpaaGreatDoor
set_option maxRecDepth 100000
set_option maxHeartbeats 4000000
set_option linter.unusedSimpArgs false
set_option linter.unusedVariables false
open Go Go.RowKit
open Go.Maps Go.WideMaps
def AY (w:World) (v:Value) (k n:Nat) (cs:List Value):Prop :=
 ∃a cap,v=.slice a n cap∧n≤cap∧(a=none→cap=0)∧cs.length=n*k∧∀(j:Nat) u,cs[j]?=some u→∃b off,a=some ⟨b,off,none⟩∧b<w.heap.size∧w.cell? ⟨b,off+j,none⟩=some u
theorem AY.form {w:World} {v:Value} {k n:Nat} {cs:List Value} (h:AY w v k n cs):∃a cap,v=.slice a n cap:=by
 obtain⟨a,cap,o,_⟩:=h;exact⟨a,cap,o⟩
theorem AY.at {w:World} {a:Option Addr} {m cap k n:Nat} {cs:List Value} (h:AY w (.slice a m cap) k n cs) {j:Nat} {u:Value} (hj:cs[j]?=some u) :
  ∃b off,a=some ⟨b,off,none⟩∧b<w.heap.size∧w.cell? ⟨b,off+j,none⟩=some u:=by
 obtain⟨E,A,o,_,_,_,D⟩:=h;obtain⟨b,off,e,B,C⟩:=D j u hj;simp only[Value.slice.injEq]at o;exact⟨b,off,by rw[o.1,e],B,C⟩
theorem AY.keep {w w':World} {v:Value} {k n:Nat} {cs:List Value} (h:AY w v k n cs) (hs:w.heap.size≤w'.heap.size) (hk:∀g,g<w.heap.size→w'.heap[g]?=w.heap[g]?):AY w' v k n cs:=by
 obtain⟨a,cap,B,G,C,E,F⟩:=h;refine⟨a,cap,B,G,C,E,λj u hj=>?_⟩;obtain⟨b,o,e,A,D⟩:=F j u hj;exact⟨b,o,e,Nat.lt_of_lt_of_le A hs,by rw[World.cell?_of_block (hk b A)];exact D⟩
theorem AY.below {w w':World} {v:Value} {k n:Nat} {cs:List Value} (h:AY w v k n cs) (hb:Below w.heap.size w w'):AY w' v k n cs:=h.keep hb.size hb.block
theorem AY.nil (w:World) (k:Nat):AY w (.slice none 0 0) k 0 []:=⟨none,0,rfl,QM _,λ_=>rfl,by simp,λj u h=>by simp at h⟩
theorem AY.of_own {w:World} {base:Nat} {t:TypeId} {k n:Nat} {v:Value} {cs:List Value} (h:w.ownsRow base t k v n cs) (hl:cs.length=n*k):AY w v k n cs:=by
 have o:=λg hg=>World.ownsRow.cells (g:=g) h hg
 rcases h.2 with⟨h1,h2⟩|⟨g,cap,cur,h1,hg,hb,hc,hm,_,_⟩
 ·subst h2;have:cs=[]:=ZW (by rw[hl];simp);subst this;rw[h1];exact AY.nil _ _
 ·refine⟨some ⟨g,0,none⟩,cap,h1,hc,(λe=>by cases e),hl,λj u hj=>⟨g,0,rfl,AE hb,?_⟩⟩;have:=o g (by rw[h1];rfl) j u hj;rw[addr_add]at this;rw[Nat.zero_add];exact this
theorem AY.src {w:World} {ad:Addr} {m cap k n:Nat} {cs:List Value} (h:AY w (.slice (some ad) m cap) k n cs) (j:Nat) (u:Value) (hj:cs[j]?=some u):w.cell? (ad.add j)=some u:=by
 obtain⟨b,o,e,_,A⟩:=h.at hj;cases e;rw[Bd];exact A
theorem B2 (s:ByteArray) (w:World) :
  Calls Tryz.prog 64 #[.string s] w λe w'=>e=.returned (.bool (Fs.good s.data.toList))∧w'=w:=by
 have D:=QA (Eq s);have P:(0:Int)≤(s.size:Int):=Int.natCast_nonneg _;go_enter Tryz.func64,Tryz.ntmps64;by_cases h1:s.size<1
 ·have K:(s.size:Int)<1:=by omega
  have J:Hid (Fs.good s.data.toList=false):=by rw[D.out,decide_eq_false (by omega)];exact QA rfl
  go_wp2_with fail;go_ret;exact⟨congrArg (λb=>Ending.returned (.bool b)) J.out.symm,rfl⟩
 have K:(1:Int)≤(s.size:Int):=by omega
 by_cases h2:20<s.size
 ·have L:(20:Int)<(s.size:Int):=by omega
  have J:Hid (Fs.good s.data.toList=false):=by rw[D.out,decide_eq_false (p:=s.size≤20) (by omega)];exact QA (by simp)
  go_wp2_with fail;go_ret;exact⟨congrArg (λb=>Ending.returned (.bool b)) J.out.symm,rfl⟩
 have L:(s.size:Int)≤20:=by omega
 have D:Hid (Fs.good s.data.toList=(sfx s 0).all Fs.goodB):=by
  rw[D.out,decide_eq_true (by omega),decide_eq_true (by omega)];exact QA rfl
 clear h1 h2;go_wp2_with fail
 go_loopg [3,4] s.size (λk s3 s4 wq=>∃a:Nat,a≤s.size∧k=s.size-a∧s3=.int .i64 (a:Nat)∧(sfx s a).all Fs.goodB=(sfx s 0).all Fs.goodB∧wq=w)
 case atStart=>exact⟨0,Nat.zero_le _,rfl,rfl,rfl,rfl⟩
 case round =>
  obtain⟨a,R,O,rfl,G,rfl⟩:=hrel;have C:=QA O;have A:=QA G;clear O G;have Q:(0:Int)≤(a:Int):=Int.natCast_nonneg _;by_cases hlt:a<s.size
  ·have H:(a:Int)<(s.size:Int):=by omega
   have E:=QA (GX s Fs.goodB a hlt);have N:Hid (Fs.goodB (bt s a)=true↔(97≤(bt s a).toNat∧(bt s a).toNat≤122)∨(48≤(bt s a).toNat∧(bt s a).toNat≤57)∨(bt s a).toNat=46∨(bt s a).toNat=45):=by
    refine QA ?_;unfold Fs.goodB;simp only[Bool.or_eq_true,Bool.and_eq_true,decide_eq_true_eq];omega
   have B:((97≤(bt s a).toNat∧(bt s a).toNat≤122)∨(48≤(bt s a).toNat∧(bt s a).toNat≤57)∨(bt s a).toNat=46∨(bt s a).toNat=45)∨(((bt s a).toNat<48∧(bt s a).toNat≠46∧(bt s a).toNat≠45)∨(57<(bt s a).toNat∧(bt s a).toNat<97)∨122<(bt s a).toNat):=by omega
   rcases B with hgd|hbd
   ·have o:Hid (Fs.goodB (bt s a)=true):=QA (N.out.2 hgd);rcases hgd with⟨g1,g2⟩|⟨g1,g2⟩|g1|g1
    ·have F:(97:Int)≤((bt s a).toNat:Int):=by omega
     have I:((bt s a).toNat:Int)≤122:=by omega
     go_wp2_with fail;go_roundg (s.size-(a+1))
     case measure=>rw[C.out];omega
     case rel=>exact⟨a+1,hlt,rfl,by simp,by rw[← A.out,E.out,o.out,Bool.true_and],rfl⟩
    ·have F:(48:Int)≤((bt s a).toNat:Int):=by omega
     have I:((bt s a).toNat:Int)≤57:=by omega
     go_wp2_with fail;go_roundg (s.size-(a+1))
     case measure=>rw[C.out];omega
     case rel=>exact⟨a+1,hlt,rfl,by simp,by rw[← A.out,E.out,o.out,Bool.true_and],rfl⟩
    ·have F:((bt s a).toNat:Int)=46:=by omega
     clear g1;go_wp2_with fail;go_roundg (s.size-(a+1))
     case measure=>rw[C.out];omega
     case rel=>exact⟨a+1,hlt,rfl,by simp,by rw[← A.out,E.out,o.out,Bool.true_and],rfl⟩
    ·have F:((bt s a).toNat:Int)=45:=by omega
     clear g1;go_wp2_with fail;go_roundg (s.size-(a+1))
     case measure=>rw[C.out];omega
     case rel=>exact⟨a+1,hlt,rfl,by simp,by rw[← A.out,E.out,o.out,Bool.true_and],rfl⟩
   ·have o:Hid (Fs.goodB (bt s a)=false):=by
     refine QA ?_;rw[← Bool.not_eq_true,N.out];omega
    rcases hbd with⟨g1,g2,g3⟩|⟨g1,g2⟩|g1
    ·have F:((bt s a).toNat:Int)<48:=by omega
     have I:=eqF (n:=(bt s a).toNat) (k:=46) (by omega);have M:=eqF (n:=(bt s a).toNat) (k:=45) (by omega);clear g2 g3;go_wp2_with fail;go_ret;refine⟨congrArg (λb=>Ending.returned (.bool b)) ?_,rfl⟩;rw[D.out,← A.out,E.out,o.out];rfl
    ·have F:((bt s a).toNat:Int)<97:=by omega
     have S:(57:Int)<((bt s a).toNat:Int):=by omega
     have z1:decide (((bt s a).toNat:Int)≤57)=false:=decide_eq_false (by omega);have I:=eqF (n:=(bt s a).toNat) (k:=46) (by omega);have M:=eqF (n:=(bt s a).toNat) (k:=45) (by omega);go_wp2_with fail;go_ret;refine⟨congrArg (λb=>Ending.returned (.bool b)) ?_,rfl⟩;rw[D.out,← A.out,E.out,o.out];rfl
    ·have F:(122:Int)<((bt s a).toNat:Int):=by omega
     have z1:decide (((bt s a).toNat:Int)≤57)=false:=decide_eq_false (by omega);have T:decide (((bt s a).toNat:Int)≤122)=false:=decide_eq_false (by omega);have I:=eqF (n:=(bt s a).toNat) (k:=46) (by omega);have M:=eqF (n:=(bt s a).toNat) (k:=45) (by omega);go_wp2_with fail;go_ret;refine⟨congrArg (λb=>Ending.returned (.bool b)) ?_,rfl⟩;rw[D.out,← A.out,E.out,o.out];rfl
  ·have H:(s.size:Int)≤(a:Int):=by omega
   go_wp2_with fail;go_ret;refine⟨congrArg (λb=>Ending.returned (.bool b)) ?_,rfl⟩;rw[D.out,← A.out,show sfx s a=[] from ZC (by simp;omega)];rfl
def Ab (w:World) (v:Value) (l:Fs.Names):Prop:=AY w v 2 l.length (AP l)
theorem Ab.below {w w':World} {v:Value} {l:Fs.Names} (h:Ab w v l) (hb:Below w.heap.size w w'):Ab w' v l:=AY.below h hb
theorem Ab.at2 {w:World} {a:Option Addr} {m cap:Nat} {l:Fs.Names} (h:Ab w (.slice a m cap) l) {i:Nat} {p:List UInt8×Int} (hi:l[i]?=some p) :
  ∃b off,a=some ⟨b,off,none⟩∧b<w.heap.size∧w.cell? ⟨b,off+i*2,none⟩=some (.string ⟨p.1.toArray⟩)∧w.cell? ⟨b,off+i*2+1,none⟩=some (.int .i64 p.2):=by
 obtain⟨h0,B⟩:=Cp l i p hi;obtain⟨b,off,e,E,C⟩:=h.at h0;obtain⟨F,A,o,_,D⟩:=h.at B;rw[e]at o;cases o;exact⟨b,off,e,E,C,by rw[Nat.add_assoc];exact D⟩
def Fs.find (l:Fs.Names) (s:List UInt8):Int:=if Fs.mhas l s then Fs.mget l s else -1
theorem Fs.find_cons (p:List UInt8×Int) (l:Fs.Names) (s:List UInt8):Fs.find (p::l) s=if p.1=s then p.2 else Fs.find l s:=by
 unfold Fs.find Fs.mhas Fs.mget;rw[List.any_cons,List.find?_cons];by_cases h:p.1=s
 ·rw[if_pos h];have:(p.1==s)=true:=by rw[beq_iff_eq];exact h
  rw[this];simp
 ·rw[if_neg h];have:(p.1==s)=false:=by rw[beq_eq_false_iff_ne];exact h
  rw[this,Bool.false_or]
theorem str_eq (a b:ByteArray):(a.toList==b.toList)=decide (a.data.toList=b.data.toList):=by
 rw[ByteArray.toList_eq,ByteArray.toList_eq,Bool.eq_iff_iff,beq_iff_eq,decide_eq_true_eq]
theorem DV (v:Value) (l:Fs.Names) (s:ByteArray) (w:World) (h:Ab w v l) (hl:l.length≤1000000) :
  Calls Tryz.prog 65 #[v,.string s] w λe w'=>e=.returned (.int .i64 (Fs.find l s.data.toList))∧w'=w:=by
 obtain⟨a,c,rfl⟩:=h.form;have H:=QA h;clear h;go_enter Tryz.func65,Tryz.ntmps65;go_wp2_with fail
 go_loopg [5,8] l.length (λk s5 s8 wq=>∃i:Nat,i≤l.length∧k=l.length-i∧s8=.int .i64 (i:Nat)∧Fs.find (l.drop i) s.data.toList=Fs.find l s.data.toList∧wq=w)
 case atStart=>exact⟨0,Nat.zero_le _,rfl,rfl,rfl,rfl⟩
 case round =>
  obtain⟨i,Q,I,rfl,J,rfl⟩:=hrel;have M:=QA I;have E:=QA J;clear I J;have N:(0:Int)≤(i:Int):=Int.natCast_nonneg _;by_cases hin:i<l.length
  ·have B:(i:Int)<(l.length:Int):=by omega
   obtain⟨p,G⟩:∃p,l[i]?=some p:=⟨_,ZG hin⟩
   obtain⟨b,o,rfl,hb,c0,c1⟩:=H.out.at2 G;obtain⟨u,F⟩:∃t:ByteArray,t=⟨p.1.toArray⟩:=⟨_,rfl⟩
   have A:=str_eq u s;have K:Hid (Fs.find (l.drop i) s.data.toList=if p.1=s.data.toList then p.2 else Fs.find (l.drop (i+1)) s.data.toList):=by
    obtain⟨P,O⟩:=List.getElem?_eq_some_iff.1 G;rw[ZB P,O,Fs.find_cons];exact QA rfl
   rw[← F]at c0;have C:u.data.toList=p.1:=by rw[F]
   rw[C]at A;clear G F C;by_cases he:p.1=s.data.toList
   ·rw[decide_eq_true he]at A;have D:Hid (Fs.find l s.data.toList=p.2):=by rw[← E.out,K.out,if_pos he];exact QA rfl
    clear he;go_wp2_with fail;go_ret;exact⟨by rw[D.out];rfl,rfl⟩
   ·rw[decide_eq_false he]at A;have L:Hid (Fs.find (l.drop (i+1)) s.data.toList=Fs.find l s.data.toList):=by rw[← E.out,K.out,if_neg he];exact QA rfl
    clear he;go_wp2_with fail;go_roundg (l.length-(i+1))
    case measure=>rw[M.out];omega
    case rel=>exact⟨i+1,by omega,rfl,by simp,L.out,rfl⟩
  ·have B:(l.length:Int)≤(i:Int):=by omega
   have D:Hid (Fs.find l s.data.toList=-1):=by rw[← E.out,ZC (by omega)];exact QA rfl
   go_wp2_with fail;go_ret;exact⟨by rw[D.out];rfl,rfl⟩
open Go.Maps Go.WideMaps
namespace Fs
def withL (n:List UInt8×Int):Bool→Names→Names
 | done,[]=>if done then [] else [n]
 | done,x::r=>if x.1=n.1 then withL n done r else if !done&&bytesBefore n.1 x.1 then n::x::withL n true r else x::withL n done r
theorem B1 (n:List UInt8×Int):∀l:Names,withL n true l=mdel l n.1
 | []=>rfl
 | x::r=>by
  rw[withL];unfold mdel;rw[List.filter_cons];by_cases h:x.1=n.1
  ·rw[if_pos h,B1 n r];have:(x.1==n.1)=true:=by rw[beq_iff_eq];exact h
   rw[this];rfl
  ·rw[if_neg h,if_neg (by simp),B1 n r];have:(x.1==n.1)=false:=by rw[beq_eq_false_iff_ne];exact h
   rw[this];rfl
theorem DD (n:List UInt8×Int):∀l:Names,withL n false l=mput l n.1 n.2
 | []=>rfl
 | x::r=>by
  rw[withL];by_cases h:x.1=n.1
  ·rw[if_pos h,DD n r];have:(x.1==n.1)=true:=by rw[beq_iff_eq];exact h
   unfold mput mdel;rw[List.filter_cons,this];rfl
  ·rw[if_neg h];have hb:(x.1==n.1)=false:=by rw[beq_eq_false_iff_ne];exact h
   have e:mput (x::r) n.1 n.2=mins n (x::mdel r n.1):=by
    unfold mput mdel;rw[List.filter_cons,hb];rfl
   rw[e];unfold mins;show _=if bytesBefore n.1 x.1=true then _ else _
   by_cases hlt:bytesBefore n.1 x.1=true
   ·rw[if_pos (by rw[hlt];rfl),if_pos hlt,B1]
   ·rw[if_neg (by simpa using hlt),if_neg hlt,DD n r];rfl
theorem withL_eq (n:List UInt8×Int) (l:Names):withL n (decide (n.2<0)) l=doOne l n:=by
 unfold doOne;by_cases h:n.2<0
 ·rw[if_pos h,decide_eq_true h,B1]
 ·rw[if_neg h,decide_eq_false h,DD]
end Fs
theorem Dh:∀(x y:List UInt8),Op.bytesLess x y=bytesBefore x y
 | [],[]=>rfl
 | [],_::_=>rfl
 | _::_,[]=>rfl
 | a::x,b::y=>by rw[Op.bytesLess,bytesBefore,Dh x y]
theorem Ay.mono {w:World} {base base':Nat} {v:Value} {l:Fs.Names} (h:w.ownsRow base 95 2 v l.length (AP l)) (hb:base'≤base):w.ownsRow base' 95 2 v l.length (AP l):=by
 refine⟨h.1,?_⟩;rcases h.2 with h2|⟨g,cap,cur,hv,hg,r⟩
 ·exact .inl h2
 ·exact .inr ⟨g,cap,cur,hv,QQ hb hg,r⟩
theorem JQ:(Tryz.prog.info? 95).map (λi=>(i.zero,i.size,i.bytes))=some (some (.agg #[.string ⟨#[]⟩,.int .i64 0]),2,24):=by kernel_rfl
theorem Ce (a b:Fs.Names):AP (a++b)=AP a++AP b:=by unfold AP;rw[List.flatMap_append]
theorem Cg (l:Fs.Names):∀u∈AP l,u.oneCell'=true:=λu hu=>by
 unfold AP at hu;obtain⟨c,_,o⟩:=List.mem_flatMap.1 hu;simp at o;rcases o with rfl|rfl<;>rfl
def Ay (w:World) (base:Nat) (v:Value) (l:Fs.Names):Prop:=w.ownsRow base 95 2 v l.length (AP l)
theorem Ay.names {w:World} {base:Nat} {v:Value} {l:Fs.Names} (h:Ay w base v l):Ab w v l:=AY.of_own h (Cc l)
theorem Ay.keep {w w':World} {base:Nat} {v:Value} {l:Fs.Names} (h:Ay w base v l) (hb:Below w.heap.size w w'):Ay w' base v l :=
 AQ h (λg hg=>hb.block g (World.ownsRow.lt h g hg).2)
theorem Ay.form3 {w:World} {base:Nat} {v:Value} {l:Fs.Names} (h:Ay w base v l):∃a n c,v=.slice a n c∧Hid (n=l.length):=by
 obtain⟨a,c,e⟩:=BV h;exact⟨a,_,c,e,QA rfl⟩
theorem A0 {ops:Array Oper} {rest:List Oper} {o:Oper} {a:Act} {w:World} {Q:Exit→Act→World→Prop} (hgd:o.guard=none) (s x:Operand)
  (ho:o.op=.call { callee:=.builtin .append,args:=#[s,x],argTypes:=#[29,29] })
  (base:Nat) (v:Value) (l:Fs.Names) (hs:a.eval s=v) (hown:Ay w base v l) (n:List UInt8×Int) (b:Nat) (hx:a.eval x=.slice (some ⟨b,0,none⟩) 1 1)
  (h0:w.cell? ⟨b,0,none⟩=some (.string ⟨n.1.toArray⟩)) (h1:w.cell? ⟨b,1,none⟩=some (.int .i64 n.2)) (h63:l.length≤1000000000) (hbase:base≤w.heap.size)
  (h:∀v' w',Ay w' base v' (l++[n])→w.grownBy w' v.ownBlock→wpList Tryz.prog ops Q rest (a.put o.dst v') w') :
  wpList Tryz.prog ops Q (o::rest) a w:=by
 obtain⟨E,D,B,A,C⟩:=info_parts JQ;refine wpList_append_own_at w hgd s x _ ho base 95 E (.agg #[.string ⟨#[]⟩,.int .i64 0]) 2 24 Tryz.underlying29 D B A C rfl (by decide) v l.length (AP l) hs hown ⟨b,0,none⟩ 1 1 (AP [n]) hx rfl ?_ (Cg [n]) (by unfold maxLen;omega) (by omega) hbase ?_
 ·intro j u hj;rw[Bd]
  match j,hj with
  | 0,hj=>simp[AP]at hj;subst hj;exact h0
  | 1,hj=>simp[AP]at hj;subst hj;exact h1
  | j+2,hj=>simp[AP]at hj
 ·intro v' w' g1 g2 _ _;exact h v' w' (by unfold Ay;rw[QS,Ce];exact g1) g2
structure WRd (base:Nat) (wA:World) (s u:ByteArray) (nz pz:Int) (bx b o:Nat) (v:Value) (out:Fs.Names) (w:World):Prop where
 own:Ay w base v out
 bel:Below base wA w
 hb:base≤w.heap.size
 z0:w.cell? ⟨bx,0,none⟩=some (.string s)
 z1:w.cell? ⟨bx,1,none⟩=some (.int .i64 nz)
 c0:w.cell? ⟨b,o,none⟩=some (.string u)
 c1:w.cell? ⟨b,o+1,none⟩=some (.int .i64 pz)
theorem WRd.below {base:Nat} {wA:World} {s u:ByteArray} {nz pz:Int} {bx b o:Nat} {v:Value} {out:Fs.Names} {w w':World} (h:WRd base wA s u nz pz bx b o v out w) (hb:Below w.heap.size w w'):WRd base wA s u nz pz bx b o v out w' :=
 ⟨h.own.keep hb,h.bel.trans (hb.mono h.hb),QQ h.hb hb.size,by rw[hb.cell (AN h.z0)];exact h.z0,by rw[hb.cell (AN h.z1)];exact h.z1,by rw[hb.cell (AN h.c0)];exact h.c0,by rw[hb.cell (AN h.c1)];exact h.c1⟩
theorem WRd.grown {base:Nat} {wA:World} {s u:ByteArray} {nz pz:Int} {bx b o:Nat} {v v':Value} {out out':Fs.Names} {w w':World} (h:WRd base wA s u nz pz bx b o v out w) (hbx:bx<base) (hbb:b<base) (ho:Ay w' base v' out') (hg:w.grownBy w' v.ownBlock):WRd base wA s u nz pz bx b o v' out' w':=by
 have A:Below base w w':=below_grown (Below.refl _ _) h.hb h.own hg;exact⟨ho,h.bel.trans A,QQ h.hb A.size,by rw[A.cell hbx];exact h.z0,by rw[A.cell hbx];exact h.z1,by rw[A.cell hbb];exact h.c0,by rw[A.cell hbb];exact h.c1⟩
theorem Em (v:Value) (l:Fs.Names) (n:List UInt8×Int) (w:World) (h:Ab w v l) (hl:l.length≤1000000) (hn:n.1.length≤1000000) :
  Calls Tryz.prog 75 #[v,.agg #[.string ⟨n.1.toArray⟩,.int .i64 n.2]] w λe w'=>∃v',e=.returned v'∧Ay w' w.heap.size v' (Fs.doOne l n)∧Below w.heap.size w w':=by
 obtain⟨a,c,rfl⟩:=h.form;obtain⟨s,hs⟩:∃t:ByteArray,t=⟨n.1.toArray⟩:=⟨_,rfl⟩
 rw[← hs];have HS:Hid (s.data.toList=n.1):=by rw[hs];exact QA rfl
 have au:=QA hs;have af:Below w.heap.size w (w.alloc (.cells #[.string s,.int .i64 n.2] 95)):=(Below.refl _ _).alloc (QM _) _;have aa:=AH w (.cells #[.string s,.int .i64 n.2] 95);have aD:=QA af;have aG:=QA aa;have H:=QA (h.below af);have y0:=AA aa 0 _ rfl;have y1:=AA aa 1 _ rfl;clear h hs af aa;go_enter Tryz.func75,Tryz.ntmps75;go_wp2_with fail
 go_loopg [5,6,7,13] l.length (λk s5 s6 s7 s13 wq=>∃(i:Nat) (C:Fs.Names) (D:Bool),i≤l.length∧k=l.length-i∧s13=.int .i64 (i:Nat)∧s6=.bool D∧Ay wq (w.heap.size+1) s5 C∧C.length≤2*i∧C++Fs.withL n D (l.drop i)=Fs.doOne l n∧Below (w.heap.size+1) (w.alloc (.cells #[.string s,.int .i64 n.2] 95)) wq)
 case atStart=>exact⟨0,[],_,Nat.zero_le _,rfl,rfl,rfl,World.ownsRow_nil _ _ _ _,by simp,by rw[QL,List.nil_append];exact Fs.withL_eq n l,Below.refl _ _⟩
 case round =>
  obtain⟨i,C,D,hi,hk,rfl,rfl,X,aX,hw,M⟩:=hrel;obtain⟨oa,on,oc,aF,aW⟩:=Ay.form3 X;subst aF;have HK:=QA hk;have Q:=QA X;have HW:=QA hw;have ap:=QA M;have aU:(0:Int)≤(i:Int):=Int.natCast_nonneg _;have Z:wr.heap[w.heap.size]?=some (.cells #[.string s,.int .i64 n.2] 95 (0,0)):=(M.block _ (Nat.lt_succ_self _)).trans aG.out;have aL:=QA Z;have z0:=AA Z 0 _ rfl;have z1:=AA Z 1 _ rfl;have N:w.heap.size+1≤wr.heap.size:=QQ (by simp) M.size;clear hk X hw Z;by_cases hin:i<l.length
  ·have ao:(i:Int)<(l.length:Int):=by omega
   obtain⟨p,hp⟩:∃p,l[i]?=some p:=⟨_,ZG hin⟩
   have L:Below (w.alloc (.cells #[.string s,.int .i64 n.2] 95)).heap.size (w.alloc (.cells #[.string s,.int .i64 n.2] 95)) wr:=by simpa using M
   obtain⟨b,o,rfl,hb,-,-⟩:=H.out.at2 hp;obtain⟨_,_,eb,_,c0,c1⟩:=(H.out.below L).at2 hp;cases eb;have Y:b<w.heap.size+1:=by simpa using hb
   obtain⟨u,hu⟩:∃t:ByteArray,t=⟨p.1.toArray⟩:=⟨_,rfl⟩
   have V:=str_eq u s;have HD:Hid (Fs.withL n D (l.drop i)=if p.1=n.1 then Fs.withL n D (l.drop (i+1)) else if !D&&bytesBefore n.1 p.1 then n::p::Fs.withL n true (l.drop (i+1)) else p::Fs.withL n D (l.drop (i+1))):=by
    obtain⟨h1,h2⟩:=List.getElem?_eq_some_iff.1 hp;rw[ZB h1,h2,Fs.withL];exact QA rfl
   rw[← hu]at c0;have HU:=QA hu;have ai:u.data.toList=p.1:=by rw[hu]
   rw[ai,HS.out]at V;clear hp hu L M;have HG:Hid (WRd (w.heap.size+1) (w.alloc (.cells #[.string s,.int .i64 n.2] 95)) s u n.2 p.2 w.heap.size b (o+i*2) (.slice oa on oc) C wr):=QA ⟨Q.out,ap.out,N,z0,z1,c0,c1⟩;clear hb Q ap aL N;by_cases he:p.1=n.1
   ·rw[decide_eq_true he]at V;have P:Hid (C++Fs.withL n D (l.drop (i+1))=Fs.doOne l n):=by rw[← HW.out,HD.out,if_pos he];exact QA rfl
    clear he;go_wp2_with fail;refine AO [] (by kernel_rfl) (by kernel_rfl) ?_;simp only[Ap,QF,QN,QE,QL,Nat.sub_zero,Nat.reduceSub,QW]
    repeat (go_big_quiet_step (fail))
    refine wpQuiet_nil ?_;rintro _ ⟨nq,rfl⟩;have A:=QA (HG.out.below (Below.drewN (Below.refl _ _) nq));obtain⟨w6,F⟩:∃x,x=(wr).drewN nq:=⟨_,rfl⟩
    rw[← F]at A ⊢;clear F z0 z1 c0 c1;have z0:=A.out.z0;have z1:=A.out.z1;have c0:=A.out.c0;have c1:=A.out.c1;go_wp2_with fail;go_roundg (l.length-(i+1))
    case measure=>rw[HK.out];omega
    case rel=>exact⟨i+1,C,D,by omega,rfl,by simp,rfl,A.out.own,by omega,P.out,A.out.bel⟩
   ·rw[decide_eq_false he]at V;have aH:Op.bytesLess s.toList u.toList=bytesBefore n.1 p.1:=by rw[Dh,ByteArray.toList_eq,ByteArray.toList_eq,ai,HS.out]
    obtain⟨B,hB⟩:∃B,B=bytesBefore n.1 p.1:=⟨_,rfl⟩
    rw[← hB]at aH HD;have ae:Hid (Fs.withL n D (l.drop i)=if !D&&B then n::p::Fs.withL n true (l.drop (i+1)) else p::Fs.withL n D (l.drop (i+1))):=by rw[HD.out,if_neg he];exact QA rfl
    clear HD he ai hB;cases D
    ·cases B
     ·have P:Hid ((C++[p])++Fs.withL n false (l.drop (i+1))=Fs.doOne l n):=by rw[← HW.out,ae.out];exact QA (by simp)
      go_wp2_with fail;refine AO [] (by kernel_rfl) (by kernel_rfl) ?_;simp only[Ap,QF,QN,QE,QL,Nat.sub_zero,Nat.reduceSub,QW]
      repeat (go_big_quiet_step (fail))
      refine wpQuiet_nil ?_;rintro _ ⟨nq,rfl⟩;have A:=QA (HG.out.below (Below.drewN (Below.refl _ _) nq));obtain⟨w6,F⟩:∃x,x=(wr).drewN nq:=⟨_,rfl⟩
      rw[← F]at A ⊢;clear F z0 z1 c0 c1;have z0:=A.out.z0;have z1:=A.out.z1;have c0:=A.out.c0;have c1:=A.out.c1;go_wp2_with fail;refine AO [] (by kernel_rfl) (by kernel_rfl) ?_;simp only[Ap,QF,QN,QE,QL,Nat.sub_zero,Nat.reduceSub,QW]
      repeat (go_big_quiet_step (fail))
      refine wpQuiet_nil ?_;rintro _ ⟨nq,rfl⟩;have E:=QA (A.out.below (Below.drewN (Below.refl _ _) nq));obtain⟨I,F⟩:∃x,x=(w6).drewN nq:=⟨_,rfl⟩
      rw[← F]at E ⊢;clear F z0 z1 c0 c1;have z0:=E.out.z0;have z1:=E.out.z1;have c0:=E.out.c0;have c1:=E.out.c1;have J:Below (I).heap.size I ((I).alloc (.cells #[.string u,.int .i64 p.2] 95)):=(Below.refl _ _).alloc (QM _) _;have K:=QA (E.out.below J);have T:=AA (AH I (.cells #[.string u,.int .i64 p.2] 95)) 0 _ rfl;have S:=AA (AH I (.cells #[.string u,.int .i64 p.2] 95)) 1 _ rfl;have E0:=QA (show ((I).alloc (.cells #[.string u,.int .i64 p.2] 95)).cell? ⟨(I).heap.size,0,none⟩=some (.string ⟨(p).1.toArray⟩) by rw[← HU.out];exact T);have E1:=QA (show ((I).alloc (.cells #[.string u,.int .i64 p.2] 95)).cell? ⟨(I).heap.size,1,none⟩=some (.int .i64 (p).2) from S);have O:Hid ((C).length≤1000000000):=QA (by first|omega|(simp;omega));clear J T S;go_wp2_with (first|(at_builtin;refine A0 rfl _ _ rfl (w.heap.size+1) _ (C) rfl K.out.own (p) (I).heap.size rfl E0.out E1.out O.out K.out.hb ?_;intro v' w8 hown hgrow;obtain⟨va,vn,vc,U,av⟩:=Ay.form3 hown;subst U;have G:=QA (K.out.grown (Nat.lt_succ_self _) Y hown hgrow);clear hown hgrow z0 z1 c0 c1;have z0:=G.out.z0;have z1:=G.out.z1;have c0:=G.out.c0;have c1:=G.out.c1)|fail);go_roundg (l.length-(i+1))
      case measure=>rw[HK.out];omega
      case rel=>exact⟨i+1,C++[p],false,by omega,rfl,by simp,rfl,G.out.own,by rw[QS,List.length_singleton];omega,P.out,G.out.bel⟩
     ·have P:Hid ((C++[n]++[p])++Fs.withL n true (l.drop (i+1))=Fs.doOne l n):=by rw[← HW.out,ae.out];exact QA (by simp)
      go_wp2_with fail;refine AO [] (by kernel_rfl) (by kernel_rfl) ?_;simp only[Ap,QF,QN,QE,QL,Nat.sub_zero,Nat.reduceSub,QW]
      repeat (go_big_quiet_step (fail))
      refine wpQuiet_nil ?_;rintro _ ⟨nq,rfl⟩;have A:=QA (HG.out.below (Below.drewN (Below.refl _ _) nq));obtain⟨w6,F⟩:∃x,x=(wr).drewN nq:=⟨_,rfl⟩
      rw[← F]at A ⊢;clear F z0 z1 c0 c1;have z0:=A.out.z0;have z1:=A.out.z1;have c0:=A.out.c0;have c1:=A.out.c1;go_wp2_with fail;refine AO [] (by kernel_rfl) (by kernel_rfl) ?_;simp only[Ap,QF,QN,QE,QL,Nat.sub_zero,Nat.reduceSub,QW]
      repeat (go_big_quiet_step (fail))
      refine wpQuiet_nil ?_;rintro _ ⟨nq,rfl⟩;have E:=QA (A.out.below (Below.drewN (Below.refl _ _) nq));obtain⟨I,F⟩:∃x,x=(w6).drewN nq:=⟨_,rfl⟩
      rw[← F]at E ⊢;clear F z0 z1 c0 c1;have z0:=E.out.z0;have z1:=E.out.z1;have c0:=E.out.c0;have c1:=E.out.c1;have J:Below (I).heap.size I ((I).alloc (.cells #[.string s,.int .i64 n.2] 95)):=(Below.refl _ _).alloc (QM _) _;have K:=QA (E.out.below J);have T:=AA (AH I (.cells #[.string s,.int .i64 n.2] 95)) 0 _ rfl;have S:=AA (AH I (.cells #[.string s,.int .i64 n.2] 95)) 1 _ rfl;have E0:=QA (show ((I).alloc (.cells #[.string s,.int .i64 n.2] 95)).cell? ⟨(I).heap.size,0,none⟩=some (.string ⟨(n).1.toArray⟩) by rw[← au.out];exact T);have E1:=QA (show ((I).alloc (.cells #[.string s,.int .i64 n.2] 95)).cell? ⟨(I).heap.size,1,none⟩=some (.int .i64 (n).2) from S);have O:Hid ((C).length≤1000000000):=QA (by first|omega|(simp;omega));clear J T S;go_wp2_with (first
         | (at_builtin;refine A0 rfl _ _ rfl (w.heap.size+1) _ (C) rfl K.out.own (n) (I).heap.size rfl E0.out E1.out O.out K.out.hb ?_;intro v' w8 hown hgrow;obtain⟨va,vn,vc,U,av⟩:=Ay.form3 hown;subst U;have G:=QA (K.out.grown (Nat.lt_succ_self _) Y hown hgrow);clear hown hgrow z0 z1 c0 c1;have z0:=G.out.z0;have z1:=G.out.z1;have c0:=G.out.c0;have c1:=G.out.c1)
         | (at_builtin;have ab:Below w8.heap.size w8 (w8.alloc (.cells #[.string u,.int .i64 p.2] 95)):=(Below.refl _ _).alloc (QM _) _;have W:=QA (G.out.below ab);have ar:=AA (AH w8 (.cells #[.string u,.int .i64 p.2] 95)) 0 _ rfl;have aw:=AA (AH w8 (.cells #[.string u,.int .i64 p.2] 95)) 1 _ rfl;refine A0 rfl _ _ rfl (w.heap.size+1) _ (C++[n]) rfl W.out.own p w8.heap.size rfl (by rw[← HU.out];exact ar) aw (by simp;omega) W.out.hb ?_;intro v'' w9 hown9 hgrow9;have am:=QA (W.out.grown (Nat.lt_succ_self _) Y hown9 hgrow9);clear hown9 hgrow9 ab ar aw)
         | fail)
      go_roundg (l.length-(i+1))
      case measure=>rw[HK.out];omega
      case rel=>exact⟨i+1,C++[n]++[p],true,by omega,rfl,by simp,rfl,am.out.own,by simp;omega,P.out,am.out.bel⟩
    ·have P:Hid ((C++[p])++Fs.withL n true (l.drop (i+1))=Fs.doOne l n):=by rw[← HW.out,ae.out];exact QA (by simp)
     go_wp2_with fail;refine AO [] (by kernel_rfl) (by kernel_rfl) ?_;simp only[Ap,QF,QN,QE,QL,Nat.sub_zero,Nat.reduceSub,QW]
     repeat (go_big_quiet_step (fail))
     refine wpQuiet_nil ?_;rintro _ ⟨nq,rfl⟩;have A:=QA (HG.out.below (Below.drewN (Below.refl _ _) nq));obtain⟨w6,F⟩:∃x,x=(wr).drewN nq:=⟨_,rfl⟩
     rw[← F]at A ⊢;clear F z0 z1 c0 c1;have z0:=A.out.z0;have z1:=A.out.z1;have c0:=A.out.c0;have c1:=A.out.c1;go_wp2_with fail;refine AO [] (by kernel_rfl) (by kernel_rfl) ?_;simp only[Ap,QF,QN,QE,QL,Nat.sub_zero,Nat.reduceSub,QW]
     repeat (go_big_quiet_step (fail))
     refine wpQuiet_nil ?_;rintro _ ⟨nq,rfl⟩;have E:=QA (A.out.below (Below.drewN (Below.refl _ _) nq));obtain⟨I,F⟩:∃x,x=(w6).drewN nq:=⟨_,rfl⟩
     rw[← F]at E ⊢;clear F z0 z1 c0 c1;have z0:=E.out.z0;have z1:=E.out.z1;have c0:=E.out.c0;have c1:=E.out.c1;have J:Below (I).heap.size I ((I).alloc (.cells #[.string u,.int .i64 p.2] 95)):=(Below.refl _ _).alloc (QM _) _;have K:=QA (E.out.below J);have T:=AA (AH I (.cells #[.string u,.int .i64 p.2] 95)) 0 _ rfl;have S:=AA (AH I (.cells #[.string u,.int .i64 p.2] 95)) 1 _ rfl;have E0:=QA (show ((I).alloc (.cells #[.string u,.int .i64 p.2] 95)).cell? ⟨(I).heap.size,0,none⟩=some (.string ⟨(p).1.toArray⟩) by rw[← HU.out];exact T);have E1:=QA (show ((I).alloc (.cells #[.string u,.int .i64 p.2] 95)).cell? ⟨(I).heap.size,1,none⟩=some (.int .i64 (p).2) from S);have O:Hid ((C).length≤1000000000):=QA (by first|omega|(simp;omega));clear J T S;go_wp2_with (first|(at_builtin;refine A0 rfl _ _ rfl (w.heap.size+1) _ (C) rfl K.out.own (p) (I).heap.size rfl E0.out E1.out O.out K.out.hb ?_;intro v' w8 hown hgrow;obtain⟨va,vn,vc,U,av⟩:=Ay.form3 hown;subst U;have G:=QA (K.out.grown (Nat.lt_succ_self _) Y hown hgrow);clear hown hgrow z0 z1 c0 c1;have z0:=G.out.z0;have z1:=G.out.z1;have c0:=G.out.c0;have c1:=G.out.c1)|fail);go_roundg (l.length-(i+1))
     case measure=>rw[HK.out];omega
     case rel=>exact⟨i+1,C++[p],true,by omega,rfl,by simp,rfl,G.out.own,by rw[QS,List.length_singleton];omega,P.out,G.out.bel⟩
  ·have ao:(l.length:Int)≤(i:Int):=by omega
   have ac:l.drop i=[]:=ZC (by omega);rw[ac]at HW;have L:Below w.heap.size w wr:=aD.out.trans (M.mono (Nat.le_succ _));have aj:=QA L;clear ac M L;cases D
   ·have J:Below wr.heap.size wr (wr.alloc (.cells #[.string s,.int .i64 n.2] 95)):=(Below.refl _ _).alloc (QM _) _;have aq:=QA (Q.out.keep J);have aJ:=QA (aj.out.trans (J.mono aj.out.size));have T:=AA (AH wr (.cells #[.string s,.int .i64 n.2] 95)) 0 _ rfl;have S:=AA (AH wr (.cells #[.string s,.int .i64 n.2] 95)) 1 _ rfl;have E0:=QA (show (wr.alloc (.cells #[.string s,.int .i64 n.2] 95)).cell? ⟨wr.heap.size,0,none⟩=some (.string ⟨n.1.toArray⟩) by rw[← au.out];exact T);have E1:=QA S;have R:w.heap.size+1≤(wr.alloc (.cells #[.string s,.int .i64 n.2] 95)).heap.size:=QQ N J.size;have O:Hid (C.length≤1000000000):=QA (by omega);clear J T S;go_wp2_with (first|(at_builtin;refine A0 rfl _ _ rfl (w.heap.size+1) _ C rfl aq.out n wr.heap.size rfl E0.out E1.out O.out R ?_;intro v' w5 hown hgrow;have an:=QA hown;have aE:=QA (below_grown (aJ.out.mono (QM _)) (QQ (Nat.le_succ _) R) (Ay.mono aq.out (Nat.le_succ _)) hgrow);clear hown hgrow)|fail);go_ret;refine⟨_,rfl,?_,aE.out⟩;have h1:=an.out;rw[show C++[n]=Fs.doOne l n from HW.out]at h1;exact Ay.mono h1 (Nat.le_succ _)
   ·go_wp2_with fail;go_ret;refine⟨_,rfl,?_,aj.out⟩;have h1:=Q.out;have h2:C=Fs.doOne l n:=by have:=HW.out;rwa [show Fs.withL n true []=[] from rfl,List.append_nil]at this
    rw[← h2];exact Ay.mono h1 (Nat.le_succ _)
open Go.Maps Go.WideMaps
structure RV where
 fv:Value
 dv:Value
 sv:Value
 cv:Value
 pv:Value
 vs:List Value
def AG (st:Fs.St) (V:RV):Array Value:=#[.int .i64 st.room,V.fv,V.dv,V.sv,V.cv,.int .i64 st.steps,.int .i64 st.left,V.pv]
def AU (l:List (List UInt8×Nat)):List Value:=l.flatMap λf=>[.string ⟨f.1.toArray⟩,.int .i64 (f.2:Nat)]
structure RF (w:World) (st:Fs.St) (V:RV):Prop where
 files:AY w V.fv 2 st.files.length (AU st.files)
 dir:Ab w V.dv st.dir
 sure:Ab w V.sv st.sure
 chg:AY w V.cv 1 st.changes.length V.vs∧∀(i:Nat) x y,V.vs[i]?=some x→st.changes[i]?=some y→Ab w x y
 plan:AY w V.pv 1 st.plan.length (st.plan.map λz=>.int .i64 z)
theorem RF.below {w w':World} {st:Fs.St} {V:RV} (h:RF w st V) (hb:Below w.heap.size w w'):RF w' st V:=by
 exact⟨h.files.below hb,h.dir.below hb,h.sure.below hb,⟨h.chg.1.below hb,λi x y hx hy=>(h.chg.2 i x y hx hy).below hb⟩,h.plan.below hb⟩
def Bz (w w':World) (A B:World→Prop):Prop:=∀w0:World,w'.heap.size≤w0.heap.size→(∀g,w.heap.size≤g→g<w'.heap.size→w0.heap[g]?=w'.heap[g]?)→A w0→B w0
def GR (st:Fs.St) (V0:RV) (w:World) (e:Ending) (w':World):Prop :=
 Below w.heap.size w w'∧∃V,e=.returned (.tuple #[.agg (AG (Fs.step st).1 V),.int .i64 (Fs.step st).2.1,.int .i64 (Fs.step st).2.2])∧∀w0,RF w0 st V0→RF w0 (Fs.step st).1 V
theorem Hq {Q:Ending→World→Prop} {a:Act} {W:World} (g:Nat) (st:Fs.St) (V:RV) (x y:Int) (h2:a.tmps[2]?=some (.pointer (some ⟨g,0,none⟩))) (h3:a.tmps[3]?=some (.int .i64 x)) (h4:a.tmps[4]?=some (.int .i64 y)) (hd:a.defers=[])
  (hW:W.heap[g]?=some (.cells (AG st V) 33 (0,0))) (hQ:Q (.returned (.tuple #[.agg (AG st V),.int .i64 x,.int .i64 y])) W):bodyPost Tryz.prog Tryz.f66 Q .ret a W:=by
 have B:W.cell? ⟨g,0,none⟩=some (.int .i64 st.room):=AA hW 0 _ rfl;have C:W.cell? ⟨g,1,none⟩=some V.fv:=AA hW 1 _ rfl;have D:W.cell? ⟨g,2,none⟩=some V.dv:=AA hW 2 _ rfl;have o:W.cell? ⟨g,3,none⟩=some V.sv:=AA hW 3 _ rfl;have G:W.cell? ⟨g,4,none⟩=some V.cv:=AA hW 4 _ rfl;have E:W.cell? ⟨g,5,none⟩=some (.int .i64 st.steps):=AA hW 5 _ rfl;have A:W.cell? ⟨g,6,none⟩=some (.int .i64 st.left):=AA hW 6 _ rfl;have F:W.cell? ⟨g,7,none⟩=some V.pv:=AA hW 7 _ rfl;exact bodyPost_ret (v:=.tuple #[.agg (AG st V),.int .i64 x,.int .i64 y]) (by simp[results,Tryz.results66,go_sem,h2,h3,h4,B,C,D,o,G,E,A,F,AG]) hd hQ
theorem Ak {st st':Fs.St} {V V':RV} {x y:Int} {a:Act} {w:World} {c1:Array Value} (h2:a.tmps[2]?=some (.pointer (some ⟨w.heap.size+1,0,none⟩))) (h3:a.tmps[3]?=some (.int .i64 x)) (h4:a.tmps[4]?=some (.int .i64 y)) (hd:a.defers=[])
  (hE:Fs.step st=(st',x,y)) (h:∀w0,RF w0 st V→RF w0 st' V'):bodyPost Tryz.prog Tryz.f66 (GR st V w) .ret a ((w.alloc (.cells c1 33)).alloc (.cells (AG st' V') 33)):=by
 have hb:Below w.heap.size w ((w.alloc (.cells c1 33)).alloc (.cells (AG st' V') 33)):=((Below.refl _ _).alloc (QM _) _).alloc (by simp) _;have o:=AH (w.alloc (.cells c1 33)) (.cells (AG st' V') 33);rw[show (w.alloc (.cells c1 33)).heap.size=w.heap.size+1 by simp]at o;refine Hq (w.heap.size+1) st' V' x y h2 h3 h4 hd o ⟨hb,V',?_,?_⟩
 ·rw[hE]
 ·rw[hE];exact h
theorem EI {w:World} {b o c:Nat} {z:Int} {r:List Int} (h:AY w (.slice (some ⟨b,o,none⟩) (r.length+1) c) 1 (z::r).length ((z::r).map λz=>.int .i64 z)) :
  AY w (.slice (if c=1 then some ⟨b,o,none⟩ else some ⟨b,o+1,none⟩) r.length (c-1)) 1 r.length (r.map λz=>.int .i64 z):=by
 have J:=h;obtain⟨L,H,e,B,I,F,C⟩:=h;simp only[Value.slice.injEq]at e;obtain⟨rfl,-,rfl⟩:=e;rw[List.length_cons]at B;refine⟨_,c-1,rfl,by omega,(λe=>by split at e<;>cases e),(by simp),λj u hj=>?_⟩;obtain⟨G,K,e,D,A⟩:=C (j+1) u (by simpa using hj);simp only[Option.some.injEq,Addr.mk.injEq,and_true]at e;obtain⟨rfl,rfl⟩:=e;have E:¬c=1:=by
  have:=(List.getElem?_eq_some_iff.1 hj).1;simp at this;omega
 rw[if_neg E];exact⟨b,o+1,rfl,D,by rw[show o+1+j=o+(j+1) by omega];exact A⟩
theorem Bg (st:Fs.St) (V:RV) (w:World) (h:RF w st V) (hl:-1≤st.left∧st.left≤9223372036854775807) (hp:st.plan.length≤9223372036854775807) :
  Calls Tryz.prog 66 #[.agg (AG st V)] w (GR st V w):=by
 obtain⟨fv,dv,sv,cv,pv,vs⟩:=V;obtain⟨pa,F,Y⟩:=h.plan.form;simp only at Y;subst Y;obtain⟨Q,U,e1⟩:=h.files.form;obtain⟨R,P,e2⟩:=AY.form h.dir;obtain⟨S,X,e3⟩:=AY.form h.sure;obtain⟨W,T,e4⟩:=h.chg.1.form;simp only at e1 e2 e3 e4;subst e1 e2 e3 e4;have H:=QA h;clear h;obtain⟨V0,N⟩:∃x:RV,x=⟨.slice Q st.files.length U,.slice R st.dir.length P,.slice S st.sure.length X,.slice W st.changes.length T,.slice pa st.plan.length F,vs⟩:=⟨_,rfl⟩
 rw[show GR st ⟨.slice Q st.files.length U,.slice R st.dir.length P,.slice S st.sure.length X,.slice W st.changes.length T,.slice pa st.plan.length F,vs⟩ w=GR st V0 w by rw[N]];have G:=QA N;clear N;unfold AG;go_enter Tryz.func66,Tryz.ntmps66;by_cases h0:st.left=0
 ·have A:Hid (Fs.step st=(st,0,22)):=by unfold Fs.step;rw[if_pos h0];exact QA rfl
  have ad:(st.left==0)=true:=by rw[beq_iff_eq];exact h0
  have HL:=QA h0;clear h0;go_wp2_with fail;exact Ak (V':=⟨_,_,_,_,_,_⟩) rfl rfl rfl rfl A.out (λw0 h=>by rw[G.out]at h;exact h)
 ·have ad:(st.left==0)=false:=by rw[beq_eq_false_iff_ne];exact h0
  obtain⟨L,M⟩:∃L,L=if 0<st.left then st.left-1 else st.left:=⟨_,rfl⟩
  have J:Hid (Fs.step st=({ st with steps:=wrap64 (st.steps+1),left:=L,plan:=st.plan.tail },st.plan.headD 0,Fs.code (st.plan.headD 0))):=by unfold Fs.step;rw[if_neg h0,← M];exact QA rfl
  obtain⟨al,an⟩:=hl;rcases Int.lt_or_le 0 st.left with hpos|hneg
  ·rw[if_pos hpos]at M;have I:=QA M;clear M h0;cases hpl:st.plan with
   | nil =>
    have A:Hid (Fs.step st=({ st with steps:=wrap64 (st.steps+1),left:=L,plan:=[] },0,0)):=by rw[J.out,hpl];exact QA rfl
    have E:Hid (∀w0,RF w0 st V0→RF w0 { st with steps:=wrap64 (st.steps+1),left:=L,plan:=[] } ⟨.slice Q st.files.length U,.slice R st.dir.length P,.slice S st.sure.length X,.slice W st.changes.length T,.slice pa 0 F,vs⟩):=by
     refine QA λw0 h=>?_
     rw[G.out]at h;refine⟨h.files,h.dir,h.sure,h.chg,?_⟩;have:=h.plan;rw[hpl]at this;exact this
    rw[I.out]at A E;go_wp2_with fail;exact Ak (V':=⟨_,_,_,_,_,_⟩) rfl rfl rfl rfl A.out E.out
   | cons z r =>
    have D:=H.out.plan;rw[hpl]at D;obtain⟨b,o,O,hb,c0⟩:=D.at (j:=0) (u:=.int .i64 z) rfl;subst O;rw[Nat.add_zero]at c0;have Z:r.length+1≤F:=by
     obtain⟨a',c',e,h1,_⟩:=D;simp only[Value.slice.injEq]at e;obtain⟨-,-,rfl⟩:=e;exact h1
    have E:Hid (∀w0,RF w0 st V0→RF w0 { st with steps:=wrap64 (st.steps+1),left:=L,plan:=r } ⟨.slice Q st.files.length U,.slice R st.dir.length P,.slice S st.sure.length X,.slice W st.changes.length T,.slice (if F=1 then some ⟨b,o,none⟩ else some ⟨b,o+1,none⟩) r.length (F-1),vs⟩):=by
     refine QA λw0 h=>?_
     rw[G.out]at h;refine⟨h.files,h.dir,h.sure,h.chg,?_⟩;have:=h.plan;rw[hpl]at this;exact EI this
    have B:Hid (Fs.step st=({ st with steps:=wrap64 (st.steps+1),left:=L,plan:=r },z,Fs.code z)):=by rw[J.out,hpl];exact QA rfl
    rw[I.out]at B E;have ae:(0:Int)≤(r.length:Int):=Int.natCast_nonneg _;have K:(r.length:Int)+1≤(F:Int):=by omega
    clear D hpl;by_cases hpc:F=1
    ·obtain rfl:r=[]:=ZW (by omega);subst hpc;rw[if_pos rfl]at E;by_cases hz0:z=0
     ·subst hz0;have A:=B.out;rw[show Fs.code 0=0 from rfl]at A;have C:=QA A;clear A;go_wp2_with fail;exact Ak (V':=⟨_,_,_,_,_,_⟩) rfl rfl rfl rfl C.out E.out
     ·by_cases hz2:z=2
      ·subst hz2;have A:=B.out;rw[show Fs.code 2=21 from rfl]at A;have C:=QA A;clear A;go_wp2_with fail;exact Ak (V':=⟨_,_,_,_,_,_⟩) rfl rfl rfl rfl C.out E.out
      ·have A:=B.out;rw[show Fs.code z=20 by unfold Fs.code;rw[if_neg hz0,if_neg hz2]]at A;have C:=QA A;have t0:(z==0)=false:=by rw[beq_eq_false_iff_ne];exact hz0
       have t2:(z==2)=false:=by rw[beq_eq_false_iff_ne];exact hz2
       clear A hz0 hz2;go_wp2_with fail;exact Ak (V':=⟨_,_,_,_,_,_⟩) rfl rfl rfl rfl C.out E.out
    ·rw[if_neg hpc]at E;by_cases hz0:z=0
     ·subst hz0;have A:=B.out;rw[show Fs.code 0=0 from rfl]at A;have C:=QA A;clear A;go_wp2_with fail;exact Ak (V':=⟨_,_,_,_,_,_⟩) rfl rfl rfl rfl C.out E.out
     ·by_cases hz2:z=2
      ·subst hz2;have A:=B.out;rw[show Fs.code 2=21 from rfl]at A;have C:=QA A;clear A;go_wp2_with fail;exact Ak (V':=⟨_,_,_,_,_,_⟩) rfl rfl rfl rfl C.out E.out
      ·have A:=B.out;rw[show Fs.code z=20 by unfold Fs.code;rw[if_neg hz0,if_neg hz2]]at A;have C:=QA A;have t0:(z==0)=false:=by rw[beq_eq_false_iff_ne];exact hz0
       have t2:(z==2)=false:=by rw[beq_eq_false_iff_ne];exact hz2
       clear A hz0 hz2;go_wp2_with fail;exact Ak (V':=⟨_,_,_,_,_,_⟩) rfl rfl rfl rfl C.out E.out
  ·rw[if_neg (by omega)]at M;have I:=QA M;clear M h0;cases hpl:st.plan with
   | nil =>
    have A:Hid (Fs.step st=({ st with steps:=wrap64 (st.steps+1),left:=L,plan:=[] },0,0)):=by rw[J.out,hpl];exact QA rfl
    have E:Hid (∀w0,RF w0 st V0→RF w0 { st with steps:=wrap64 (st.steps+1),left:=L,plan:=[] } ⟨.slice Q st.files.length U,.slice R st.dir.length P,.slice S st.sure.length X,.slice W st.changes.length T,.slice pa 0 F,vs⟩):=by
     refine QA λw0 h=>?_
     rw[G.out]at h;refine⟨h.files,h.dir,h.sure,h.chg,?_⟩;have:=h.plan;rw[hpl]at this;exact this
    rw[I.out]at A E;go_wp2_with fail;exact Ak (V':=⟨_,_,_,_,_,_⟩) rfl rfl rfl rfl A.out E.out
   | cons z r =>
    have D:=H.out.plan;rw[hpl]at D;obtain⟨b,o,O,hb,c0⟩:=D.at (j:=0) (u:=.int .i64 z) rfl;subst O;rw[Nat.add_zero]at c0;have Z:r.length+1≤F:=by
     obtain⟨a',c',e,h1,_⟩:=D;simp only[Value.slice.injEq]at e;obtain⟨-,-,rfl⟩:=e;exact h1
    have E:Hid (∀w0,RF w0 st V0→RF w0 { st with steps:=wrap64 (st.steps+1),left:=L,plan:=r } ⟨.slice Q st.files.length U,.slice R st.dir.length P,.slice S st.sure.length X,.slice W st.changes.length T,.slice (if F=1 then some ⟨b,o,none⟩ else some ⟨b,o+1,none⟩) r.length (F-1),vs⟩):=by
     refine QA λw0 h=>?_
     rw[G.out]at h;refine⟨h.files,h.dir,h.sure,h.chg,?_⟩;have:=h.plan;rw[hpl]at this;exact EI this
    have B:Hid (Fs.step st=({ st with steps:=wrap64 (st.steps+1),left:=L,plan:=r },z,Fs.code z)):=by rw[J.out,hpl];exact QA rfl
    rw[I.out]at B E;have ae:(0:Int)≤(r.length:Int):=Int.natCast_nonneg _;have K:(r.length:Int)+1≤(F:Int):=by omega
    clear D hpl;by_cases hpc:F=1
    ·obtain rfl:r=[]:=ZW (by omega);subst hpc;rw[if_pos rfl]at E;by_cases hz0:z=0
     ·subst hz0;have A:=B.out;rw[show Fs.code 0=0 from rfl]at A;have C:=QA A;clear A;go_wp2_with fail;exact Ak (V':=⟨_,_,_,_,_,_⟩) rfl rfl rfl rfl C.out E.out
     ·by_cases hz2:z=2
      ·subst hz2;have A:=B.out;rw[show Fs.code 2=21 from rfl]at A;have C:=QA A;clear A;go_wp2_with fail;exact Ak (V':=⟨_,_,_,_,_,_⟩) rfl rfl rfl rfl C.out E.out
      ·have A:=B.out;rw[show Fs.code z=20 by unfold Fs.code;rw[if_neg hz0,if_neg hz2]]at A;have C:=QA A;have t0:(z==0)=false:=by rw[beq_eq_false_iff_ne];exact hz0
       have t2:(z==2)=false:=by rw[beq_eq_false_iff_ne];exact hz2
       clear A hz0 hz2;go_wp2_with fail;exact Ak (V':=⟨_,_,_,_,_,_⟩) rfl rfl rfl rfl C.out E.out
    ·rw[if_neg hpc]at E;by_cases hz0:z=0
     ·subst hz0;have A:=B.out;rw[show Fs.code 0=0 from rfl]at A;have C:=QA A;clear A;go_wp2_with fail;exact Ak (V':=⟨_,_,_,_,_,_⟩) rfl rfl rfl rfl C.out E.out
     ·by_cases hz2:z=2
      ·subst hz2;have A:=B.out;rw[show Fs.code 2=21 from rfl]at A;have C:=QA A;clear A;go_wp2_with fail;exact Ak (V':=⟨_,_,_,_,_,_⟩) rfl rfl rfl rfl C.out E.out
      ·have A:=B.out;rw[show Fs.code z=20 by unfold Fs.code;rw[if_neg hz0,if_neg hz2]]at A;have C:=QA A;have t0:(z==0)=false:=by rw[beq_eq_false_iff_ne];exact hz0
       have t2:(z==2)=false:=by rw[beq_eq_false_iff_ne];exact hz2
       clear A hz0 hz2;go_wp2_with fail;exact Ak (V':=⟨_,_,_,_,_,_⟩) rfl rfl rfl rfl C.out E.out
open Go.Maps Go.WideMaps
theorem RF.forms {w:World} {st:Fs.St} {V:RV} (h:RF w st V):∃fa fc da dc ua uc ga gc pa pc vs,V=⟨.slice fa st.files.length fc,.slice da st.dir.length dc,.slice ua st.sure.length uc,.slice ga st.changes.length gc,.slice pa st.plan.length pc,vs⟩:=by
 obtain⟨fv,dv,sv,cv,pv,vs⟩:=V;obtain⟨pa,pc,o⟩:=h.plan.form;obtain⟨fa,fc,A⟩:=h.files.form;obtain⟨da,dc,C⟩:=AY.form h.dir;obtain⟨ua,uc,B⟩:=AY.form h.sure;obtain⟨ga,gc,D⟩:=h.chg.1.form;simp only at o A C B D;subst o A C B D;exact⟨fa,fc,da,dc,ua,uc,ga,gc,pa,pc,vs,rfl⟩
def Dj (st:Fs.St) (n:List UInt8):Value:=.tuple #[.int .i64 (if Fs.openE st n=0 then Fs.mget st.dir n else 0),.int .i64 (Fs.openE st n)]
theorem CS (st:Fs.St) (V:RV) (s:ByteArray) (w:World) (h:RF w st V) (hd:st.dir.length≤1000000) (hk:∀p∈st.dir,0≤p.2) :
  Calls Tryz.prog 68 #[.agg (AG st V),.string s] w λe w'=>e=.returned (Dj st s.data.toList)∧Below w.heap.size w w':=by
 obtain⟨H,N,I,G,J,S,P,K,L,M,vs,rfl⟩:=h.forms;have W:=QA h.dir;have T:=QA hk;clear h hk;unfold AG;go_enter Tryz.func68,Tryz.ntmps68;go_wp2_with fail;have o:=(Below.refl w.heap.size w).alloc (QM _) (.cells #[.int .i64 st.room,.slice H st.files.length N,.slice I st.dir.length G,.slice J st.sure.length S,.slice P st.changes.length K,.int .i64 st.steps,.int .i64 st.left,.slice L st.plan.length M] 33);have R:=AH w (.cells #[.int .i64 st.room,.slice H st.files.length N,.slice I st.dir.length G,.slice J st.sure.length S,.slice P st.changes.length K,.int .i64 st.steps,.int .i64 st.left,.slice L st.plan.length M] 33);have X:=AA R 2 _ rfl;refine (B2 s _).mono ?_;rintro e w1 ⟨rfl,rfl⟩;have F:=QA (W.out.below o);have A:=QA o;clear o R;cases hg:Fs.good s.data.toList
 ·have B:Hid (Fs.openE st s.data.toList=7):=by unfold Fs.openE;rw[if_pos hg];exact QA rfl
  clear hg;go_wp2_with fail;refine bodyPost_ret (v:=.tuple #[.int .i64 0,.int .i64 7]) (by simp[results,Tryz.results68,go_sem]) rfl ?_;exact⟨by unfold Dj;rw[B.out];rfl,A.out⟩
 ·go_wp2_with fail;refine (DV _ st.dir s _ F.out hd).mono ?_;rintro e w2 ⟨rfl,rfl⟩;cases hm:Fs.mhas st.dir s.data.toList
  ·have B:Hid (Fs.openE st s.data.toList=3):=by unfold Fs.openE;rw[if_neg (by rw[hg];simp),if_pos hm];exact QA rfl
   have E:Hid (Fs.find st.dir s.data.toList=-1):=by unfold Fs.find;rw[hm];exact QA rfl
   rw[E.out];clear hg hm;go_wp2_with fail;refine bodyPost_ret (v:=.tuple #[.int .i64 0,.int .i64 3]) (by simp[results,Tryz.results68,go_sem]) rfl ?_;exact⟨by unfold Dj;rw[B.out];rfl,A.out⟩
  ·have B:Hid (Fs.openE st s.data.toList=0):=by unfold Fs.openE;rw[if_neg (by rw[hg];simp),if_neg (by rw[hm];simp)];exact QA rfl
   have E:Hid (Fs.find st.dir s.data.toList=Fs.mget st.dir s.data.toList):=by unfold Fs.find;rw[hm];exact QA rfl
   obtain⟨p,O,_,Q⟩:=Fs.mget_mem hm;have C:0≤Fs.mget st.dir s.data.toList:=by rw[← Q];exact T.out p O
   rw[E.out];obtain⟨i,D⟩:∃i,i=Fs.mget st.dir s.data.toList:=⟨_,rfl⟩
   rw[← D]at C ⊢;have U:=QA D;clear hg hm O Q D;go_wp2_with fail;refine bodyPost_ret (v:=.tuple #[.int .i64 i,.int .i64 0]) (by simp[results,Tryz.results68,go_sem]) rfl ?_;exact⟨by unfold Dj;rw[B.out,if_pos rfl,U.out],A.out⟩
theorem Ax (l:List (List UInt8×Nat)):∀(i:Nat) f,l[i]?=some f→(AU l)[i*2]?=some (.string ⟨f.1.toArray⟩)∧(AU l)[i*2+1]?=some (.int .i64 (f.2:Nat)):=by
 induction l with
 | nil=>intro i p h;simp at h
 | cons c l ih =>
  intro i p h;cases i with
  | zero=>simp at h;subst h;exact⟨rfl,rfl⟩
  | succ i =>
   have:=ih i p (by simpa using h);rw[show (i+1)*2=i*2+1+1 by omega,show i*2+1+1+1=(i*2+1)+1+1 by omega]
   simpa [AU] using this
theorem Ei (l:List (List UInt8×Nat)):(AU l).length=l.length*2:=by
 induction l with
 | nil=>rfl
 | cons c l ih=>unfold AU at *;rw[List.flatMap_cons,QS,ih];simp;omega
theorem RF.file {w:World} {st:Fs.St} {V:RV} (h:RF w st V) {i:Nat} {f:List UInt8×Nat} (hi:st.files[i]?=some f) :
  ∃b off cap,V.fv=.slice (some ⟨b,off,none⟩) st.files.length cap∧b<w.heap.size∧w.cell? ⟨b,off+i*2,none⟩=some (.string ⟨f.1.toArray⟩)∧w.cell? ⟨b,off+i*2+1,none⟩=some (.int .i64 (f.2:Nat)):=by
 obtain⟨h0,B⟩:=Ax _ i f hi;obtain⟨a,cap,e⟩:=h.files.form;have o:=h.files;rw[e]at o;obtain⟨b,off,rfl,F,C⟩:=o.at h0;obtain⟨G,A,D,_,E⟩:=o.at B;cases D;exact⟨b,off,cap,e,F,C,by rw[Nat.add_assoc];exact E⟩
end Go.Proofs.YtmlekglfdiacpaaGreatDoor
