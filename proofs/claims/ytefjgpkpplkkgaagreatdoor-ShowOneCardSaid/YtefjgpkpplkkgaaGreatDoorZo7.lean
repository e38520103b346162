/-
  A region that draws its order: quiet operations, then one that may do anything, then quiet ones again, and so on: walked once, in the text's order. After the kit's StillTail and Deep.Quiet, whose proofs are turned here: the class of worlds is 'w after some draws', and it begins anew behind each operation that may write. A region that draws its order, whose operations read what was there, and whose calls only lay new blocks: walked once, in the text's order. (The kit's Deep.Quiet at the class of the later worlds.) What the world holds while the lexer runs: the library's tables; the scanner's block. The lexer's small functions, walked: letter, digit, a name's byte, peek, rune, hex. The lexer's 'while', walked, at its two functions. The lexer's 'gap', walked. The lexer's 'number', walked. The lexer's 'hex', walked.
-/
import Derived.StillTail
import Derived.Deep.QuietTactic
import Derived.BigQuiet
import Derived.Test.YtefjgpkpplkkgaaGreatDoorZo4
import Derived.Test.YtefjgpkpplkkgaaGreatDoorZo1
import Derived.Test.YtefjgpkpplkkgaaGreatDoorZo6
import Derived.Outline
import Derived.Deep.LoopGhost
import Derived.Deep.DeepCutAuto
open Bool renaming and_eq_true → ZF
open Go.Lib renaming hid → QA
open List renaming length_cons → QO, all_eq_true → ZP
open Nat renaming le_refl → QM, lt_or_ge → ZZ
namespace Go.Proofs.YtefjgpkpplkkgaaGreatDoor
set_option maxRecDepth 100000
set_option maxHeartbeats 4000000
set_option linter.unusedSimpArgs false
set_option linter.unusedVariables false
open Go Go.RowKit
section
variable {P : Program} {ops : Array Oper} {md : Region.Mode} {C : World → Prop}
structure Pg (ops:Array Oper) (k:Nat) (listed:Array Bool):Prop where
 size:listed.size=ops.size
 yes:∀j,j<k→j<ops.size→listed.getD j false=true
 no:∀j,k≤j→j<ops.size→listed.getD j true=false
theorem Pg.set {k:Nat} {listed:Array Bool} (h:Pg ops k listed) (hk:k<ops.size):Pg ops (k+1) (listed.setIfInBounds k true) :=
 ⟨by simp[h.size],λj hj hj'=>by
  by_cases e:k=j
  ·subst e;simp[h.size,hk]
  ·rw[getD_set_ne false e];exact h.yes j (by omega) hj',λj hj hj'=>by rw[getD_set_ne true (by omega)];exact h.no j (by omega) hj'⟩
def sinkB (md:Region.Mode) (ops:Array Oper) (k n:Nat):Bool :=
 ((List.range n).all λi=>decide (i<k)||(List.range (n+1)).any λj=>decide (i<j)&&Region.waitsFor md ops j i) &&
 ((List.range ops.size).all λt=>decide (t≤n)||(List.range t).any λj=>decide (n≤j)&&Region.waitsFor md ops t j)
structure Seg (md:Region.Mode) (ops:Array Oper) (k n:Nat) (listed:Array Bool):Prop where
 size:listed.size=ops.size
 below:∀j,j<k→j<ops.size→listed.getD j false=true
 closed:∀j oj,ops[j]?=some oj→listed.getD j false=true→∀e∈oj.after,Region.binds md e=true→listed.getD e.on false=true
 tail:∀t,n≤t→t<ops.size→listed.getD t true=false
theorem Seg.set {k n i:Nat} {listed:Array Bool} (inv:Seg md ops k n listed) (hi:i∈Region.ready md ops listed) (hin:i<n):Seg md ops k n (listed.setIfInBounds i true):=by
 obtain⟨_,B,A,o⟩:=mem_ready.1 hi;refine⟨by simp[inv.size],λj hj hj'=>getD_set_true (inv.below j hj hj'),λj oj hj hl e he hb=>?_,λt ht ht'=>by rw[getD_set_ne true (by omega)];exact inv.tail t ht ht'⟩;by_cases hij:i=j
 ·subst hij;have:oj=B:=Option.some.inj (hj.symm.trans A);subst this;exact getD_set_true (o e he hb)
 ·rw[getD_set_ne false hij]at hl;exact getD_set_true (inv.closed j oj hj hl e he hb)
theorem GO {k n:Nat} {listed:Array Bool} (hs:sinkB md ops k n=true) (hn:n<ops.size) (inv:Seg md ops k n listed) :
  ∀(d i:Nat),n-i=d→i<n→listed.getD i true=false→∀t,n≤t→t ∉ Region.ready md ops listed:=by
 simp only[sinkB,ZF]at hs;intro d
 induction d using Nat.strongRecOn with
 | _ d ih =>
  intro i hd hi hun t ht hr;obtain⟨_,N,E,C⟩:=mem_ready.1 hr;have F:t<ops.size:=(Array.getElem?_eq_some_iff.1 E).1;by_cases htn:t=n
  ·subst htn;have o:=ZP.1 hs.1 i (List.mem_range.2 hi);simp only[Bool.or_eq_true,decide_eq_true_eq]at o;rcases o with o|o
   ·have:=inv.below i o (by omega);rw[getD_both hun]at this;cases this
   ·obtain⟨j,L,A⟩:=List.any_eq_true.1 o;simp only[ZF,decide_eq_true_eq]at A;obtain⟨O,G,e,I,J,B⟩:=Region.waitsFor_spec A.2;have P:j≤t:=by have:=List.mem_range.1 L;omega
    by_cases H:j=t
    ·subst H;have:O=N:=Option.some.inj (G.symm.trans E);subst this;have D:=C e I J;rw[B,getD_both hun]at D;cases D
    ·cases hl:listed.getD j false with
     | true =>
      have D:=inv.closed j O G hl e I J;rw[B,getD_both hun]at D;cases D
     | false =>
      have K:j<listed.size:=by rw[inv.size];omega
      exact ih (t-j) (by omega) j rfl (by omega) (getD_in K hl) t (QM _) hr
  ·have o:=ZP.1 hs.2 t (List.mem_range.2 F);simp only[Bool.or_eq_true,decide_eq_true_eq]at o;rcases o with o|o
   ·omega
   ·obtain⟨j,L,A⟩:=List.any_eq_true.1 o;simp only[ZF,decide_eq_true_eq]at A;obtain⟨Q,M,e,I,J,B⟩:=Region.waitsFor_spec A.2;have:Q=N:=Option.some.inj (M.symm.trans E);subst this;have D:=C e I J;have H:=List.mem_range.1 L;rw[B,getD_both (inv.tail j (by omega) (by omega))]at D;cases D
def FT (P:Program) (md:Region.Mode) (ops:Array Oper) (C:World→Prop) (n:Nat) (L:Array Bool→Act→Prop):Nat→Array Bool→Act→Prop
 | 0,listed,a=>L listed a
 | f+1,listed,a =>
  Region.ready md ops listed≠[]∧∀i∈Region.ready md ops listed,i<n∧qOp P ops C i (FT P md ops C n L f (listed.setIfInBounds i true)) a
theorem DY {n g:Nat} {L:Array Bool→Act→Prop} {Q':Exit→Act→World→Prop} (hL:∀listed a w,C w→L listed a→wpAny P md ops Q' g listed a w) :
  ∀(f:Nat) (listed:Array Bool) (a:Act) (w:World),C w→FT P md ops C n L f listed a→wpAny P md ops Q' (f+g) listed a w
 | 0,listed,a,w,hw,h=>by rw[Nat.zero_add];exact hL _ _ _ hw h
 | f+1,listed,a,w,hw,h=>by
  rw[show f+1+g=(f+g)+1 by omega];exact⟨λh0=>absurd h0 h.1,λi hi=>wpOp_of_qOp hw (λa' w' hw' h'=>DY hL f _ a' w' hw' h') (h.2 i hi).2⟩
theorem Gr {k n i:Nat} {oi:Oper} {v:Value} {L:Array Bool→Act→Prop} (hi:ops[i]?=some oi) (hsel:∀(j:Nat) (o:Oper) cs b,ops[j]?=some o→o.op≠.select cs b)
  (hs:sinkB md ops k n=true) (hn:n<ops.size) (hin:i<n)
  (hdone:∀listed a,L listed a→∀j∈Region.ready md ops listed,n≤j) :
  ∀(f:Nat) (listed:Array Bool) (a:Act),Seg md ops k n listed →
   (∀j oj,ops[j]?=some oj→j≠i→listed.getD j true=false→(∀e∈oj.after,Region.binds md e=true→e.on≠i)→oi.apart ops oj=true) →
   i∈Region.ready md ops listed→YieldsIn P ops C oi v a →
   FT P md ops C n L f (listed.setIfInBounds i true) (a.put oi.dst v)→FT P md ops C n L (f+1) listed a:=by
 intro f
 induction f with
 | zero =>
  intro listed a inv _ hr hy H;have A:=(mem_ready.1 hr).1;refine⟨λh=>(by rw[h]at hr;cases hr),λj hj=>?_⟩;have B:j<n:=by
   rcases ZZ j n with h|h
   ·exact h
   ·exact absurd hj (GO hs hn inv _ i rfl hin A j h)
  refine⟨B,?_⟩;by_cases hji:j=i
  ·subst hji;exact hy.qOp hi H
  ·have:=hdone _ _ H j (ready_mono hj hji);omega
 | succ f ih =>
  intro listed a inv hfree hr hy H;have A:=(mem_ready.1 hr).1;refine⟨λh=>(by rw[h]at hr;cases hr),λj hj=>?_⟩;have B:j<n:=by
   rcases ZZ j n with h|h
   ·exact h
   ·exact absurd hj (GO hs hn inv _ i rfl hin A j h)
  refine⟨B,?_⟩;by_cases hji:j=i
  ·subst hji;exact hy.qOp hi H
  ·have J:=(H.2 j (ready_mono hj hji)).2;obtain⟨E,oj,F,I⟩:=mem_ready.1 hj;have G:∀e∈oj.after,Region.binds md e=true→e.on≠i:=λe he hb heq=>by
    have J:=I e he hb;rw[heq,getD_both A]at J;cases J
   have K:=qOp_put F (hfree j oj F hji E G) (λcs b=>hsel i oi cs b hi) (λcs b=>hsel j oj cs b F) hy J;have D:∀k ok,ops[k]?=some ok→k≠i→(listed.setIfInBounds j true).getD k true=false →
     (∀e∈ok.after,Region.binds md e=true→e.on≠i)→oi.apart ops ok=true:=λk ok hk hki A hno=>by
    refine hfree k ok hk hki ?_ hno;by_cases hjk:j=k
    ·subst hjk;exact E
    ·rw[getD_set_ne true hjk]at A;exact A
   refine qOp_mono (λa' h3=>ih (listed.setIfInBounds j true) a' (inv.set hj B) D (ready_mono hr (Ne.symm hji)) h3.1 ?_) K;rw[Array.setIfInBounds_comm _ _ hji];exact h3.2
def Na (md:Region.Mode) (ops:Array Oper):Nat→Nat→Array Bool→Bool
 | 0,_,_=>true
 | f+1,k,listed=>(Region.ready md ops listed).contains k&&Region.free md ops listed k&&Na md ops f (k+1) (listed.setIfInBounds k true)
def An (m k:Nat):Array Bool:=(Array.range m).map λj=>decide (j<k)
theorem FA (m k:Nat):(An m k).size=m:=by simp[An]
theorem Cs (m k j:Nat) (h:j<m) (d:Bool):(An m k).getD j d=decide (j<k):=by simp[An,h]
theorem Cw (m k:Nat) (_h:k<m):(An m k).setIfInBounds k true=An m (k+1):=by
 apply Array.ext
 ·simp[An]
 ·intro i h1 h2;have hi:i<m:=by simpa [An] using h2
  have o:i<(An m k).size:=by rw[FA];exact hi
  rw[Array.getElem_setIfInBounds o];simp only[An,Array.getElem_map,Array.getElem_range];split<;>simp<;>omega
theorem FF (m:Nat):Array.replicate m false=An m 0:=by
 apply Array.ext<;>simp[An]
def KC (md:Region.Mode) (ops:Array Oper):Bool:=(List.range ops.size).all λj=>match ops[j]? with
 | some oj=>oj.after.all λe=>!Region.binds md e||decide (e.on<j)
 | none=>true
theorem Fu {k n:Nat} (hb:KC md ops=true) (hkn:k≤n):Seg md ops k n (An ops.size k):=by
 refine⟨FA _ _,λj hj hj'=>by rw[Cs _ _ _ hj'];simpa using hj,λj oj hj hl e he hbd=>?_,λt ht ht'=>by rw[Cs _ _ _ ht'];simp;omega⟩;have o:j<ops.size:=(Array.getElem?_eq_some_iff.1 hj).1;rw[Cs _ _ _ o]at hl;have A:=ZP.1 hb j (List.mem_range.2 o);simp only[hj]at A;have B:=Array.all_eq_true_iff_forall_mem.1 A e he;simp only[Bool.or_eq_true,Bool.not_eq_true',decide_eq_true_eq,hbd,Bool.true_eq_false,false_or]at B;have:j<k:=by simpa using hl
 rw[Cs _ _ _ (by omega)];simp;omega
theorem DR {k0 n:Nat} {Lq:Act→Prop} (hsel:Region.noSelect ops=true) (hs:sinkB md ops k0 n=true) (hn:n<ops.size) (hdone:∀j∈Region.ready md ops (An ops.size n),n≤j) :
  ∀(l:List Oper) (k:Nat) (a:Act),(∀j,j<l.length→l[j]?=ops[k+j]?)→k+l.length=n→Seg md ops k0 n (An ops.size k) →
  Na md ops l.length k (An ops.size k)=true→wpQuiet P ops C Lq l a →
  FT P md ops C n (λlisted' a'=>listed'=An ops.size n∧Lq a') l.length (An ops.size k) a
 | [],k,a,_,hk,_,_,h=>by
  have:k=n:=by simpa using hk
  subst this;exact⟨rfl,h⟩
 | o::l,k,a,hl,hk,inv,hB,h=>by
  have F:ops[k]?=some o:=by simpa using (hl 0 (by simp)).symm
  simp only[QO,Na,ZF]at hB;obtain⟨⟨K,I⟩,B⟩:=hB;have D:k<n:=by simp only[QO]at hk;omega
  have E:k∈Region.ready md ops (An ops.size k):=by simpa using K
  have G:qOp P ops C k (wpQuiet P ops C Lq l) a:=by unfold qOp;simp only[F];exact h
  obtain⟨v,J,H⟩:=yieldsIn_of_qOp F G;have A:=inv.set E D;rw[Cw _ _ (by omega)]at A B;refine Gr F (Region.noSelect_spec hsel) hs hn D (λlisted' a' hL=>by rw[hL.1];exact hdone) l.length (An ops.size k) a inv (Region.free_spec F I) E J ?_;rw[Cw _ _ (by omega)];exact DR hsel hs hn hdone l (k+1) _ (λj hj=>by have:=hl (j+1) (by simp;omega);simpa [Nat.add_assoc,Nat.add_comm 1 j] using this) (by simp only[QO]at hk;omega) A B H
def Ae (P:Program) (l:List Oper) (Q:Exit→Act→World→Prop):List Nat→Nat→Act→World→Prop
 | [],k,a,w=>wpQuiet P l.toArray (λw'=>∃n,w'=w.drewN n) (λa'=>∀w',(∃n,w'=w.drewN n)→Q .normal a' w') (l.drop k) a
 | n::ns,k,a,w=>wpQuiet P l.toArray (λw'=>∃n,w'=w.drewN n) (λa'=>∀w',(∃n,w'=w.drewN n) →
   wpList P l.toArray (Exit.then (Ae P l Q ns (n+1)) Q) ((l.drop n).take 1) a' w') ((l.drop k).take (n-k)) a
def Hu (md:Region.Mode) (ops:Array Oper):List Nat→Nat→Bool
 | [],k=>Region.lexFrom md ops (ops.size-k) k (An ops.size k)
 | n::ns,k=>decide (k≤n)&&decide (n<ops.size)&&sinkB md ops k n&&Na md ops (n-k) k (An ops.size k)&&decide (Region.ready md ops (An ops.size n)=[n])&&Hu md ops ns (n+1)
def Jv (md:Region.Mode) (ops:Array Oper) (ns:List Nat):Bool:=Region.noSelect ops&&KC md ops&&Hu md ops ns 0
theorem Dh {l:List Oper} {Q:Exit→Act→World→Prop} (hsel:Region.noSelect l.toArray=true) (hb:KC md l.toArray=true) :
  ∀(ns:List Nat) (k:Nat) (a:Act) (w:World),Hu md l.toArray ns k=true→k≤l.length→Ae P l Q ns k a w→∀w',(∃n,w'=w.drewN n) →
   wpAny P md l.toArray Q (l.length-k) (An l.length k) a w'
 | [],k,a,w,hB,hk,h,w',hw'=>by
  refine wpAny_of_quiet (C:=λw'=>∃n,w'=w.drewN n) (Q:=λa'=>∀w',(∃n,w'=w.drewN n)→Q .normal a' w') (λ_ w' hw' h=>h w' hw') _ _ _ _ hw' ?_;have U:(l.drop k).length=l.length-k:=by simp
  have:=wpAnyQ_lex (P:=P) (C:=λw'=>∃n,w'=w.drewN n) (md:=md) (Q:=λa'=>∀w',(∃n,w'=w.drewN n)→Q .normal a' w') hsel (l.drop k) k (An l.length k) a (λj=>by simp[List.getElem?_drop]) (by
   rw[U];simpa [Hu] using hB) h
  rwa [U]at this
 | n::ns,k,a,w,hB,hk,h,w',hw'=>by
  simp only[Hu,ZF,decide_eq_true_eq,List.size_toArray]at hB;obtain⟨⟨⟨⟨⟨M,G⟩,D⟩,W⟩,V⟩,T⟩:=hB;have A:((l.drop k).take (n-k)).length=n-k:=by simp;omega
  have H:=DR (P:=P) (C:=λw'=>∃n,w'=w.drewN n) (md:=md) hsel D (by simpa using G) (by
    intro j hj;rw[List.size_toArray,V]at hj;simp at hj;omega) ((l.drop k).take (n-k)) k a (λj hj=>by
    rw[A]at hj;simp[List.getElem?_drop,hj]) (by rw[A];omega)
   (by exact Fu hb M) (by rw[A];simpa using W) h
  rw[A]at H;have:=DY (P:=P) (C:=λw'=>∃n,w'=w.drewN n) (md:=md) (Q':=Q) (g:=l.length-n) (λlisted a' w1 hw1 hL=>by
   obtain⟨O,S⟩:=hL;rw[O];have o:=S w1 hw1;rw[show l.length-n=(l.length-(n+1))+1 by omega];have F:Region.ready md l.toArray (An l.toArray.size n)=[n]:=by simpa using V
   refine⟨λh0=>(by rw[F]at h0;cases h0),λi hi=>?_⟩;rw[F]at hi;have L:i=n:=by simpa using hi
   subst L;have E:l.toArray[i]?=some l[i]:=by simp[G]
   have B:(l.drop i).take 1=[l[i]]:=by rw[List.drop_eq_getElem_cons G,List.take_succ_cons,List.take_zero]
   rw[B]at o;unfold wpOp;simp only[E];rw[List.size_toArray,Cw _ _ G];have K:∀a2 w2,Ae P l Q ns (i+1) a2 w2→wpAny P md l.toArray Q (l.length-(i+1)) (An l.length (i+1)) a2 w2:=λa2 w2 h2 =>
    Dh hsel hb ns (i+1) a2 w2 T G h2 w2 ⟨0,rfl⟩
   unfold wpList at o;split
   ·rename_i hwant;rw[if_pos hwant]at o;refine o.imp (λD=>?_) (λD=>⟨D.1,?_⟩)
    ·have N:=Oper.wp_mono (Q:=Exit.then (Ae P l Q ns (i+1)) Q) (K':=wpAny P md l.toArray Q (l.length-(i+1)) (An l.length (i+1))) (λa w h=>K a w h) D;unfold Oper.wp at *
     generalize (execOp a'.eval l[i]).run P w1=r at *
     cases r with
     | ok nx w2 =>
      cases nx with
      | enter f args =>
       exact Calls.mono N λe w3 h3=>by cases e<;>first|exact h3|(obtain⟨J,I,R⟩:=h3;exact⟨J,I,R⟩)
      | _=>exact N
     | halt x w2=>cases x<;>exact N
    ·obtain⟨J,I,R⟩:=D.2;exact⟨J,I,R⟩
   ·rename_i hwant;rw[if_neg hwant]at o;exact K _ _ o) _ _ _ _ hw' H
  rw[show n-k+(l.length-n)=l.length-k by omega]at this;exact this
theorem AF {id:Nat} {Q:Exit→Act→World→Prop} {a:Act} {w:World} {l:List Oper} (ns:List Nat) (hm:P.follows .mixedOrders=true) (hB:Jv .any l.toArray ns=true)
  (h:Ae P l Q ns 0 a w):(Code.region id l.toArray true).wp P Q a w:=by
 simp only[Jv,ZF]at hB;obtain⟨⟨o,A⟩,hB⟩:=hB;refine wp_region_any hm ?_;rw[FF];have:=Dh (P:=P) (md:=.any) (Q:=Q) o A ns 0 a w hB (Nat.zero_le _) h { w with drawn:=w.drawn+1 } ⟨1,rfl⟩
 simpa using this
end
def Later (w:World):Type:={ w':World // Below w.heap.size w w' }
instance Later.nonempty (w : World) : Nonempty (Later w) := ⟨⟨w, Below.refl _ _⟩⟩
def Later.here (w:World):Later w:=⟨w,Below.refl _ _⟩
theorem Later.cell {w:World} {p:Addr} {v:Value} (h:w.cell? p=some v) (x:Later w):x.1.cell? p=some v:=by
 have o:p.block<w.heap.size:=by
  unfold World.cell? at h;rcases ZZ p.block w.heap.size with h'|h'
  ·exact h'
  ·simp[Array.getElem?_eq_none h']at h
 rw[x.2.cell o];exact h
theorem Later.call {P:Program} {f:FuncId} {args:Array Value} {w:World} {x:Later w} {v:Value}
  (h:Calls P f args x.1 λe w'=>e=.returned v∧Below x.1.heap.size x.1 w'):Calls P f args x.1 λe w''=>e=.returned v∧∃y:Later w,w''=y.1 :=
 h.mono λ_ _ ⟨he,hb⟩=>⟨he,⟨_,x.2.trans (hb.mono x.2.size)⟩,rfl⟩
theorem Am {P:Program} {id:Nat} {Q:Exit→Act→World→Prop} {a:Act} {w:World} {l:List Oper} (hm:P.follows .mixedOrders=true) (hB:Region.lexB .any l.toArray=true)
  (h:wpQuiet P l.toArray (λw'=>∃x:Later w,w'=x.1) (λa'=>∀w',(∃x:Later w,w'=x.1)→Q .normal a' w') l a):(Code.region id l.toArray true).wp P Q a w :=
 wp_region_quiet (C:=λw'=>∃x:Later w,w'=x.1) hm hB ⟨⟨{ w with drawn:=w.drawn+1 },⟨rfl,rfl,rfl,QM _,λ_ _=>rfl⟩⟩,rfl⟩ (by simpa using h)
def Env (w:World):Prop :=
 Lib.Utf8Tabs 0 1 w∧∃m,w.cell? ⟨2,0,none⟩=some (.int .i64 m)
theorem Ct {w:World} {a:Addr} {v:Value} (h:w.cell? a=some v):a.block<w.heap.size:=by
 unfold World.cell? at h;rcases ZZ a.block w.heap.size with h'|h'
 ·exact h'
 ·simp[Array.getElem?_eq_none h']at h
theorem Env.but {X:Nat→Prop} {w w':World} (h:Env w) (hb:But X w w') (hx:∀k,X k→3≤k):Env w':=by
 obtain⟨⟨A,o⟩,m,B⟩:=h;refine⟨⟨λc hc=>?_,λi hi=>⟨?_,?_⟩⟩,m,?_⟩
 ·rw[hb.cell (Ct (A c hc)) (λx=>by have:=hx _ x;simp at this)];exact A c hc
 ·rw[hb.cell (Ct (o i hi).1) (λx=>by have:=hx _ x;simp at this)];exact (o i hi).1
 ·rw[hb.cell (Ct (o i hi).2) (λx=>by have:=hx _ x;simp at this)];exact (o i hi).2
 ·rw[hb.cell (Ct B) (λx=>by have:=hx _ x;simp at this)];exact B
theorem Env.below {w w':World} (h:Env w) (hb:Below w.heap.size w w'):Env w':=h.but (X:=λ_=>False) (But.of_below hb) (λ_ f=>f.elim)
theorem Env.drewN {w:World} (h:Env w) (n:Nat):Env (w.drewN n):=h.but (X:=λ_=>False) ((But.refl _ w).drewN n) (λ_ f=>f.elim)
def AO (w:World) (bx:Nat) (s:ByteArray) (a:Nat):Prop:=w.heap[bx]?=some (.cells #[.string s,.int .i64 a] 214 (0,0))
theorem AO.c0 {w:World} {bx:Nat} {s:ByteArray} {a:Nat} (h:AO w bx s a):w.cell? ⟨bx,0,none⟩=some (.string s):=by
 unfold AO at h;simp[World.cell?,h]
theorem AO.c1 {w:World} {bx:Nat} {s:ByteArray} {a:Nat} (h:AO w bx s a):w.cell? ⟨bx,1,none⟩=some (.int .i64 a):=by
 unfold AO at h;simp[World.cell?,h]
theorem AO.f1 {w:World} {bx:Nat} {s:ByteArray} {a:Nat} (h:AO w bx s a):w.frozen? ⟨bx,1,none⟩=false:=by
 unfold AO at h;simp[World.frozen?,h]
theorem AO.lt {w:World} {bx:Nat} {s:ByteArray} {a:Nat} (h:AO w bx s a):bx<w.heap.size:=Ct h.c0
theorem AO.put {w:World} {bx:Nat} {s:ByteArray} {a:Nat} (h:AO w bx s a) (b:Nat):AO (w.setCell ⟨bx,1,none⟩ (.int .i64 b)) bx s b:=by
 unfold AO at *;simp[World.setCell,Array.getElem?_modify,h]
theorem AO.drewN {w:World} {bx:Nat} {s:ByteArray} {a:Nat} (h:AO w bx s a) (n:Nat):AO (w.drewN n) bx s a:=h
theorem AO.drew {w:World} {bx:Nat} {s:ByteArray} {a:Nat} (h:AO w bx s a):AO w.drew bx s a:=h
theorem AO.but {X:Nat→Prop} {w w':World} {bx:Nat} {s:ByteArray} {a:Nat} (h:AO w bx s a) (hb:But X w w') (hx:¬X bx):AO w' bx s a:=by
 unfold AO at *;rw[hb.block bx (AO.lt h) hx];exact h
theorem AO.below {w w':World} {bx:Nat} {s:ByteArray} {a:Nat} (h:AO w bx s a) (hb:Below w.heap.size w w'):AO w' bx s a:=by
 have o:=h;unfold AO at *;rw[hb.block bx (AO.lt o)];exact h
abbrev Fr (bx:Nat) (w w':World):Prop:=But (λk=>k=bx) w w'
theorem Fr.set {bx:Nat} {w w':World} (h:Fr bx w w') (o:Nat) (v:Value):Fr bx w (w'.setCell ⟨bx,o,none⟩ v):=But.setCell h (.inl rfl) v
theorem Env.fr {w w':World} {bx:Nat} (h:Env w) (hb:Fr bx w w') (h3:3≤bx):Env w':=h.but hb (λk hk=>by rw[hk];exact h3)
def OK (n:Nat):Bool:=(bits BinOp.or IntKind.u8 (n:Int) 32:Int)==(((UInt8.ofNat n) ||| 32).toNat:Int)
theorem PH (c:UInt8):bits BinOp.or IntKind.u8 (c.toNat:Int) 32=((c ||| 32).toNat:Int):=by
 have h:∀n:Fin 256,OK n.val=true:=by decide +kernel
 have:=h ⟨c.toNat,UInt8.toNat_lt c⟩
 simpa [OK] using this
theorem AW (c:UInt8) (w:World) :
  Calls Tryz.prog 158 #[.int .u8 c.toNat] w λe w'=>e=.returned (.bool (Lx.isLetter c))∧w'=w:=by
 have o:=QA (PH c);go_enter Tryz.func158,Tryz.ntmps158;go_wp2
 all_goals go_ret
 all_goals refine⟨FG ?_,rfl⟩
 all_goals rw[Bool.eq_iff_iff]
 all_goals simp only[beq_iff_eq,Lx.isLetter,Bool.or_eq_true,ZF,decide_eq_true_eq,Bool.false_eq_true,false_iff,true_iff,iff_true,iff_false]
 all_goals (try simp only[o.out]at *)
 all_goals omega
theorem Ak (c:UInt8) (w:World) :
  Calls Tryz.prog 159 #[.int .u8 c.toNat] w λe w'=>e=.returned (.bool (Lx.isDigit c))∧w'=w:=by
 go_enter Tryz.func159,Tryz.ntmps159;go_wp2
 all_goals go_ret
 all_goals refine⟨FG ?_,rfl⟩
 all_goals rw[Bool.eq_iff_iff]
 all_goals simp only[Lx.isDigit,ZF,decide_eq_true_eq,Bool.false_eq_true,false_iff,true_iff]
 all_goals omega
abbrev isWord:=Lx.isWord
theorem Hi (c:UInt8) (w:World) :
  Calls Tryz.prog 205 #[.int .u8 c.toNat] w λe w'=>e=.returned (.bool (isWord c))∧w'=w:=by
 go_enter Tryz.func205,Tryz.ntmps205;go_wp2_with (first|(go_at_call 158;refine (AW _ _).mono ?_;rintro e w' ⟨rfl,rfl⟩)|(go_at_call 159;refine (Ak _ _).mono ?_;rintro e w' ⟨rfl,rfl⟩))
 all_goals go_ret
 all_goals refine⟨FG ?_,rfl⟩
 all_goals simp_all [Lx.isWord]
theorem Ig (bx:Nat) (s:ByteArray) (a k:Nat) (w:World) (hs:s.size≤4096) (hat:a≤s.size) (hk:k≤10) (h:AO w bx s a) :
  Calls Tryz.prog 203 #[.pointer (some ⟨bx,0,none⟩),.int .i64 k] w λe w'=>e=.returned (.int .u8 (bt s (a+k)).toNat)∧∃n,w'=w.drewN n:=by
 have A:=h.c0;have o:=h.c1;clear h;by_cases hlt:a+k<s.size
 ·go_enter Tryz.func203,Tryz.ntmps203;go_wp2
  go_quiet (fail)
  go_wp2
  go_quiet (fail)
  go_wp2;go_ret;exact⟨rfl,_,World.drewN_drewN _ _ _⟩
 ·go_enter Tryz.func203,Tryz.ntmps203;go_wp2
  go_quiet (fail)
  go_wp2;go_ret;exact⟨J5 (by rw[bt_end _ _ (by omega)];rfl),_,rfl⟩
theorem Bm (bx:Nat) (s:ByteArray) (a:Nat) (w:World) (hs:s.size≤4096) (hat:a≤s.size) (h:AO w bx s a) :
  Calls Tryz.prog 203 #[.pointer (some ⟨bx,0,none⟩),.int .i64 0] w λe w'=>e=.returned (.int .u8 (bt s a).toNat)∧∃n,w'=w.drewN n:=Ig bx s a 0 w hs hat (by omega) h
theorem BM (bx:Nat) (s:ByteArray) (a:Nat) (w:World) (hs:s.size≤4096) (hat:a≤s.size) (h:AO w bx s a) :
  Calls Tryz.prog 203 #[.pointer (some ⟨bx,0,none⟩),.int .i64 1] w λe w'=>e=.returned (.int .u8 (bt s (a+1)).toNat)∧∃n,w'=w.drewN n:=Ig bx s a 1 w hs hat (by omega) h
theorem Br (s:ByteArray) (a:Nat):s.extract a s.size=⟨(sfx s a).toArray⟩:=by
 have h:(s.extract a s.size).data=(sfx s a).toArray:=by
  apply Array.ext';simp only[ByteArray.data_extract,Array.toList_extract,sfx,List.extract_eq_take_drop];exact List.take_of_length_le (by simp)
 cases h':s.extract a s.size
 simp_all
theorem A0 (bx:Nat) (s:ByteArray) (a:Nat) (w:World) (hs:s.size≤4096) (hat:a≤s.size) (h:AO w bx s a) (hE:Env w) :
  Calls Tryz.prog 202 #[.pointer (some ⟨bx,0,none⟩)] w λe w'=>e=.returned (.tuple #[.int .i32 (Lx.rune (sfx s a)).1,.int .i64 (Lx.rune (sfx s a)).2])∧Below w.heap.size w w':=by
 have C:=Lx.rune_decode (sfx s a);have F:=h.c0;have G:=h.c1;have H:=Br s a;have B:Lib.Utf8Tabs 0 1 w:=hE.1;have E:Hid (∀n,Lib.Utf8Tabs 0 1 (w.drewN n)):=λn=>B;have o:=QA C
 clear h hE B C;go_enter Tryz.func202,Tryz.ntmps202;go_wp2;refine AF [9] (by kernel_rfl) (by kernel_rfl) ?_;simp only[Ae,List.take_succ_cons,List.take_zero,List.drop_succ_cons,List.drop_zero,Nat.sub_zero,Nat.reduceSub,Nat.reduceAdd]
 repeat (go_big_quiet_step (fail))
 refine wpQuiet_nil ?_;rintro _ ⟨nq,rfl⟩;go_wp2_with fail;refine (Tryz.utf8_DecodeRuneInString _ _ (E.out nq)).mono ?_;rintro e w1 ⟨rfl,hb0⟩;have A:=Below.undrew hb0;clear hb0;go_wp2
 repeat (go_big_quiet_step (fail))
 rename_i q0;refine wpQuiet_nil ?_;rintro _ ⟨nq,rfl⟩;go_wp2
 all_goals go_ret2
 ·have e:Lx.rune (sfx s a)=(0,0):=by rw[← o.out];unfold Lx.clip;rw[if_pos ⟨by omega,by omega⟩]
  rw[e];exact⟨rfl,Below.drewN A _⟩
 ·have e:Lx.rune (sfx s a)=Lib.decodeGo ⟨(sfx s a).toArray⟩:=by rw[← o.out];unfold Lx.clip;rw[if_neg (by omega)]
  have D:(Lib.decodeGo ⟨(sfx s a).toArray⟩).1=65533:=by omega
  rw[e,D];exact⟨rfl,Below.drewN A _⟩
 ·have e:Lx.rune (sfx s a)=Lib.decodeGo ⟨(sfx s a).toArray⟩:=by rw[← o.out];unfold Lx.clip;rw[if_neg (by omega)]
  rw[e];exact⟨rfl,Below.drewN A _⟩
theorem CH (bx:Nat) (s:ByteArray) (a:Nat) (w:World) (hs:s.size≤4096) (hat:a≤s.size) (h:AO w bx s a) :
  Calls Tryz.prog 204 #[.pointer (some ⟨bx,0,none⟩),.func (.func 159) #[] #[]] w λe w'=>∃b,a≤b∧b≤s.size∧sfx s b=(sfx s a).dropWhile Lx.isDigit∧e=.returned (.int .i64 ((b:Int)-a))∧AO w' bx s b∧Fr bx w w':=by
 have L:=QA h;have I:=h.c0;have J:=h.c1;clear h;go_enter Tryz.func204,Tryz.ntmps204;go_wp2
 go_loopg [] (s.size-a) (λk wr=>∃b,k=s.size-b∧a≤b∧b≤s.size∧(sfx s b).dropWhile Lx.isDigit=(sfx s a).dropWhile Lx.isDigit∧AO wr bx s b∧Fr bx w wr)
 case atStart=>exact⟨a,rfl,QM _,hat,rfl,L.out,But.refl _ _⟩
 case round =>
  obtain⟨b,F,A,H,G,o,D⟩:=hrel;have c0:=o.c0;have c1:=o.c1;have f1:=o.f1;have C:=QA G;have M:=QA F;clear G F I J;by_cases hlt:b<s.size
  ·have K:(0:Int)≤(b:Int):=Int.natCast_nonneg _;have E:(b:Int)<s.size:=by omega
   cases hp:Lx.isDigit (bt s b)
   ·have B:=QA hp;go_wp2
    go_quiet ((refine Calls.quiet_of_same (v:=.bool false) ((Ak (bt s b) _).mono ?_);rintro e w' ⟨rfl,hw⟩;exact⟨by rw[B.out],hw⟩))
    go_wp2;go_ret;refine⟨b,A,H,?_,rfl,o.drewN _,D.drewN _⟩;rw[← C.out,Ar s b hlt,List.dropWhile_cons,B.out];simp
   ·have B:=QA hp;clear hp;go_wp2
    go_quiet ((refine Calls.quiet_of_same (v:=.bool true) ((Ak (bt s b) _).mono ?_);rintro e w' ⟨rfl,hw⟩;exact⟨by rw[B.out],hw⟩))
    go_wp2;go_roundg (s.size-(b+1))
    case measure=>rw[M.out];omega
    case rel =>
     refine⟨b+1,rfl,by omega,hlt,?_,(o.drewN _).put (b+1),(D.drewN _).setCell (.inl rfl) _⟩;rw[← C.out,Ar s b hlt,List.dropWhile_cons,B.out];simp
  ·have E:(s.size:Int)≤b:=by omega
   go_wp2
   go_quiet (fail)
   go_wp2;go_ret;refine⟨b,A,H,?_,rfl,o.drewN _,D.drewN _⟩;rw[← C.out,CF s b (by omega)];rfl
theorem Iv (bx:Nat) (s:ByteArray) (a:Nat) (w:World) (hs:s.size≤4096) (hat:a≤s.size) (h:AO w bx s a) :
  Calls Tryz.prog 204 #[.pointer (some ⟨bx,0,none⟩),.func (.func 205) #[] #[]] w λe w'=>∃b,a≤b∧b≤s.size∧sfx s b=(sfx s a).dropWhile isWord∧e=.returned (.int .i64 ((b:Int)-a))∧AO w' bx s b∧Fr bx w w':=by
 have L:=QA h;have I:=h.c0;have J:=h.c1;clear h;go_enter Tryz.func204,Tryz.ntmps204;go_wp2
 go_loopg [] (s.size-a) (λk wr=>∃b,k=s.size-b∧a≤b∧b≤s.size∧(sfx s b).dropWhile isWord=(sfx s a).dropWhile isWord∧AO wr bx s b∧Fr bx w wr)
 case atStart=>exact⟨a,rfl,QM _,hat,rfl,L.out,But.refl _ _⟩
 case round =>
  obtain⟨b,F,A,H,G,o,D⟩:=hrel;have c0:=o.c0;have c1:=o.c1;have f1:=o.f1;have C:=QA G;have M:=QA F;clear G F I J;by_cases hlt:b<s.size
  ·have K:(0:Int)≤(b:Int):=Int.natCast_nonneg _;have E:(b:Int)<s.size:=by omega
   cases hp:isWord (bt s b)
   ·have B:=QA hp;go_wp2
    go_quiet ((refine Calls.quiet_of_same (v:=.bool false) ((Hi (bt s b) _).mono ?_);rintro e w' ⟨rfl,hw⟩;exact⟨by rw[B.out],hw⟩))
    go_wp2;go_ret;refine⟨b,A,H,?_,rfl,o.drewN _,D.drewN _⟩;rw[← C.out,Ar s b hlt,List.dropWhile_cons,B.out];simp
   ·have B:=QA hp;clear hp;go_wp2
    go_quiet ((refine Calls.quiet_of_same (v:=.bool true) ((Hi (bt s b) _).mono ?_);rintro e w' ⟨rfl,hw⟩;exact⟨by rw[B.out],hw⟩))
    go_wp2;go_roundg (s.size-(b+1))
    case measure=>rw[M.out];omega
    case rel =>
     refine⟨b+1,rfl,by omega,hlt,?_,(o.drewN _).put (b+1),(D.drewN _).setCell (.inl rfl) _⟩;rw[← C.out,Ar s b hlt,List.dropWhile_cons,B.out];simp
  ·have E:(s.size:Int)≤b:=by omega
   go_wp2
   go_quiet (fail)
   go_wp2;go_ret;refine⟨b,A,H,?_,rfl,o.drewN _,D.drewN _⟩;rw[← C.out,CF s b (by omega)];rfl
theorem OB (bx:Nat) (s:ByteArray) (a:Nat) (w:World) (hs:s.size≤4096) (hat:a≤s.size) (h:AO w bx s a) (hE:Env w) (h3:3≤bx) :
  Calls Tryz.prog 166 #[.pointer (some ⟨bx,0,none⟩)] w λe w'=>∃b r,a≤b∧b≤s.size∧Lx.gap (decide (a=0)) (sfx s a)=(sfx s b,r)∧e=.returned (.bool r)∧AO w' bx s b∧Fr bx w w':=by
 go_enter Tryz.func166,Tryz.ntmps166;go_wp2
 go_loopg [] (s.size-a) (λk wr=>∃b,k=s.size-b∧a≤b∧b≤s.size∧Lx.gap (decide (b=0)) (sfx s b)=Lx.gap (decide (a=0)) (sfx s a)∧AO wr bx s b∧Fr bx w wr)
 case atStart=>exact⟨a,rfl,QM _,hat,rfl,h,But.refl _ _⟩
 case round =>
  obtain⟨b,R,S,hb,M,Q,hF⟩:=hrel;obtain⟨wo,rfl⟩:∃wo:World,wo=wr:=⟨_,rfl⟩
  have af:=QA hE;have c0:=Q.c0;have c1:=Q.c1;have f1:=Q.f1;have N:=QA M;have W:=QA R;clear M R h hE;by_cases hlt:b<s.size
  ·have ag:(0:Int)≤(b:Int):=Int.natCast_nonneg _;have P:(b:Int)<s.size:=by omega
   have L:=QA (Ar s b hlt);cases hbl:Lx.isBlank (bt s b)
   ·have E:=hbl;simp only[Lx.isBlank,Bool.or_eq_false_iff,decide_eq_false_iff_not]at E;obtain⟨⟨⟨⟨n1,n2⟩,n3⟩,n4⟩,n5⟩:=E;have X:=eqF (n:=(bt s b).toNat) (k:=32) (by omega);have Z:=eqF (n:=(bt s b).toNat) (k:=9) (by omega);have e3:=eqF (n:=(bt s b).toNat) (k:=10) (by omega);have e4:=eqF (n:=(bt s b).toNat) (k:=13) (by omega);have e5:=eqF (n:=(bt s b).toNat) (k:=44) (by omega);have F:=QA hbl;clear hbl n1 n2 n3 n4 n5;by_cases hbom:b=0∧Lx.bom (sfx s b)=true
    ·obtain⟨rfl,G⟩:=hbom;have ab:3≤s.size:=by
      have h1:=G;rw[Lx.bom,decide_eq_true_eq]at h1;have h2:=congrArg List.length h1;rw[List.length_take,AR]at h2;simp at h2;omega
     have o:Lib.hasPrefix s.data.toList [239,187,191]=true:=by rw[← Lx.bom_prefix,← C1];exact G
     have aC:wo.cell? ⟨bx,1,none⟩=some (.int .i64 0):=c1;have ad:=QA G;have D:=QA o;clear c1 G o;go_wp2
     go_quiet (fail)
     go_wp2
     go_quiet (fail)
     go_wp2_with (go_at_call 201;refine (Tryz.strings_HasPrefix _ _ _).mono ?_;rintro e w' ⟨rfl,rfl⟩;rw[D.out]);go_roundg (s.size-3)
     case measure=>rw[W.out];omega
     case rel =>
      refine⟨3,rfl,by omega,ab,?_,(Q.drewN _).put 3,by (repeat' (first|(with_reducible assumption)|(with_reducible exact But.refl _ _)|(with_reducible refine But.drewN ?_ _)|(with_reducible refine But.drew ?_)|(with_reducible refine Fr.set ?_ _ _)|(with_reducible refine But.alloc ?_ _)))⟩;rw[← N.out];have hg:=Lx.gap_bom F.out (t:=sfx s 1) (by have:=ad.out;rwa [Ar s 0 hlt]at this);have O:sfx s 0=bt s 0::sfx s 1:=L.out;rw[O];refine Eq.trans ?_ hg.symm;rw[← O,Aj];rfl
    ·have C:(((b:Int)==0)=true∧Lib.hasPrefix s.data.toList [239,187,191]=false)∨((b:Int)==0)=false:=by
      by_cases hb0:b=0
      ·refine .inl ⟨eqT (by omega),?_⟩;rw[← Lx.bom_prefix,← C1];subst hb0
       simpa using hbom
      ·exact .inr (eqF (by omega))
     have HP:Hid (¬(decide (b=0)=true∧Lx.bom (bt s b::sfx s (b+1))=true)):=by
      rw[← L.out];intro h;exact hbom ⟨by simpa using h.1,h.2⟩
     clear hbom;by_cases h35:(bt s b).toNat=35
     ·have A:=QA h35;have e6:=eqT (n:=(bt s b).toNat) (k:=35) (by omega);clear h35;rcases C with⟨O,o⟩|O
      all_goals
       try (have D:=QA o;clear o)
       go_wp2
       go_quiet (fail)
       go_wp2
       go_quiet (fail)
       go_wp2_with (go_at_call 201;refine (Tryz.strings_HasPrefix _ _ _).mono ?_;rintro e w' ⟨rfl,rfl⟩;rw[D.out]);clear c0 c1 f1 O X Z e3 e4 e5 e6
       go_loopg [] (s.size-b) (λk wi=>∃d,k=s.size-d∧b≤d∧d≤s.size∧Lx.remark (sfx s d)=Lx.remark (sfx s (b+1))∧AO wi bx s d∧Fr bx w wi)
       case atStart=>exact⟨b,rfl,QM _,hb,by rw[L.out,Lx.remark_hash A.out],by (repeat' (first|(with_reducible assumption)|(with_reducible refine AO.drewN ?_ _)|(with_reducible refine AO.drew ?_))),by (repeat' (first|(with_reducible assumption)|(with_reducible exact But.refl _ _)|(with_reducible refine But.drewN ?_ _)|(with_reducible refine But.drew ?_)|(with_reducible refine Fr.set ?_ _ _)|(with_reducible refine But.alloc ?_ _)))⟩
       case round =>
        obtain⟨d,R,ax,M,hm,H,U⟩:=hrel;have ah:=af.out.fr U h3;have c0:=H.c0;have c1:=H.c1;have f1:=H.f1;have Y:=QA hm;have ae:=QA R;clear hm R;by_cases hdl:d<s.size
        ·have ag:(0:Int)≤(d:Int):=Int.natCast_nonneg _;have P:(d:Int)<s.size:=by omega
         have B:=QA (Ar s d hdl);by_cases hnl:(bt s d).toNat=10∨(bt s d).toNat=13
         ·have an:b<d:=by
           rcases ZZ b d with h'|h'
           ·exact h'
           ·have aa:d=b:=by omega
            rw[aa,A.out]at hnl;omega
          have I:=QA hnl;have J:(((bt s d).toNat:Int) != 10)=false∨(((bt s d).toNat:Int) != 10)=true∧(((bt s d).toNat:Int) != 13)=false:=by
           rcases hnl with h'|h'
           ·exact .inl (neF (by omega))
           ·exact .inr ⟨neT (by omega),neF (by omega)⟩
          clear hnl;rcases J with X|⟨X,Z⟩
          all_goals
           go_wp2
           go_quiet (fail)
           go_wp2;go_roundg (s.size-d)
           case measure=>rw[W.out];omega
           case rel =>
            refine⟨d,rfl,by omega,M,?_,by (repeat' (first|(with_reducible assumption)|(with_reducible refine AO.drewN ?_ _)|(with_reducible refine AO.drew ?_))),by (repeat' (first|(with_reducible assumption)|(with_reducible exact But.refl _ _)|(with_reducible refine But.drewN ?_ _)|(with_reducible refine But.drew ?_)|(with_reducible refine Fr.set ?_ _ _)|(with_reducible refine But.alloc ?_ _)))⟩;rw[← N.out,L.out,Lx.gap_rem A.out,← Y.out,B.out,Lx.remark_end I.out,if_pos rfl,decide_eq_false (by omega)]
         ·have X:=neT (n:=(bt s d).toNat) (k:=10) (by omega);have Z:=neT (n:=(bt s d).toNat) (k:=13) (by omega);have I:=QA hnl;have ay:=Lx.rune_le4 (sfx s d);have T:=Lx.rune_len (sfx s d);rw[AR]at T;clear hnl;rcases Lx.ctl_cases (Lx.rune (sfx s d)).1 (Lx.rune (sfx s d)).2 with⟨q1,q4⟩|⟨q1,q2,q3,q4⟩|⟨q1,q2,q3,q4⟩|⟨q1,q2,q4⟩
          all_goals
           have Q4:=QA q4;clear q4;go_wp2
           go_quiet (fail)
           go_wp2_with fail;refine (A0 bx s d _ hs M (by (repeat' (first|(with_reducible assumption)|(with_reducible refine AO.drewN ?_ _)|(with_reducible refine AO.drew ?_)))) (ah.drewN _)).mono ?_;rintro e w1 ⟨rfl,hb1⟩;have V:=Below.undrew hb1;have K:=H.below V;have aq:Fr bx w w1:=U.trans (But.of_below V);clear hb1 c0 c1 f1;have c0:=K.c0;have c1:=K.c1;have f1:=K.f1;go_wp2
           first
           | (
             go_ret;refine⟨d,false,by omega,M,?_,rfl,by (repeat' (first|(with_reducible assumption)|(with_reducible refine AO.drewN ?_ _)|(with_reducible refine AO.drew ?_))),by (repeat' (first|(with_reducible assumption)|(with_reducible exact But.refl _ _)|(with_reducible refine But.drewN ?_ _)|(with_reducible refine But.drew ?_)|(with_reducible refine Fr.set ?_ _ _)|(with_reducible refine But.alloc ?_ _)))⟩;rw[← N.out,L.out,Lx.gap_rem A.out,← Y.out,B.out,Lx.remark_bad I.out (by rw[← B.out];exact Q4.out)];rfl)
           | (
             have q5:(Lx.rune (sfx s d)).2≠0:=λh=>Q4.out (.inl h)
             go_roundg (s.size-(d+(Lx.rune (sfx s d)).2))
             case measure=>rw[ae.out];omega
             case rel =>
              refine⟨d+(Lx.rune (sfx s d)).2,rfl,by omega,by omega,?_,K.put _,by (repeat' (first|(with_reducible assumption)|(with_reducible exact But.refl _ _)|(with_reducible refine But.drewN ?_ _)|(with_reducible refine But.drew ?_)|(with_reducible refine Fr.set ?_ _ _)|(with_reducible refine But.alloc ?_ _)))⟩;rw[← Y.out,← Aj];have:=Lx.remark_go I.out (t:=sfx s (d+1)) (by rw[← B.out];exact Q4.out);rw[← B.out]at this;exact this.symm)
        ·have P:(s.size:Int)≤d:=by omega
         go_wp2
         go_quiet (fail)
         go_wp2;go_roundg (s.size-d)
         case measure=>rw[W.out];omega
         case rel =>
          refine⟨d,rfl,by omega,M,?_,by (repeat' (first|(with_reducible assumption)|(with_reducible refine AO.drewN ?_ _)|(with_reducible refine AO.drew ?_))),by (repeat' (first|(with_reducible assumption)|(with_reducible exact But.refl _ _)|(with_reducible refine But.drewN ?_ _)|(with_reducible refine But.drew ?_)|(with_reducible refine Fr.set ?_ _ _)|(with_reducible refine But.alloc ?_ _)))⟩;rw[← N.out,L.out,Lx.gap_rem A.out,← Y.out,CF s d (by omega),Lx.remark_nil,if_pos rfl,decide_eq_false (by omega)]
     ·have e6:=eqF (n:=(bt s b).toNat) (k:=35) (by omega);have A:=QA h35;clear h35;rcases C with⟨O,o⟩|O
      all_goals
       try (have D:=QA o;clear o)
       go_wp2
       go_quiet (fail)
       go_wp2
       go_quiet (fail)
       go_wp2_with (go_at_call 201;refine (Tryz.strings_HasPrefix _ _ _).mono ?_;rintro e w' ⟨rfl,rfl⟩;rw[D.out]);go_ret;refine⟨b,true,S,hb,?_,rfl,by (repeat' (first|(with_reducible assumption)|(with_reducible refine AO.drewN ?_ _)|(with_reducible refine AO.drew ?_))),by (repeat' (first|(with_reducible assumption)|(with_reducible exact But.refl _ _)|(with_reducible refine But.drewN ?_ _)|(with_reducible refine But.drew ?_)|(with_reducible refine Fr.set ?_ _ _)|(with_reducible refine But.alloc ?_ _)))⟩;rw[← N.out,L.out];exact Lx.gap_stop F.out HP.out A.out
   ·have E:=hbl;simp only[Lx.isBlank,Bool.or_eq_true,decide_eq_true_eq]at E;have F:=QA hbl;clear hbl;rcases E with (((E|E)|E)|E)|E
    all_goals
     go_wp2
     go_quiet (fail)
     go_wp2
     go_quiet (fail)
     go_wp2;go_roundg (s.size-(b+1))
     case measure=>rw[W.out];omega
     case rel =>
      refine⟨b+1,rfl,by omega,hlt,?_,(Q.drewN _).put (b+1),by (repeat' (first|(with_reducible assumption)|(with_reducible exact But.refl _ _)|(with_reducible refine But.drewN ?_ _)|(with_reducible refine But.drew ?_)|(with_reducible refine Fr.set ?_ _ _)|(with_reducible refine But.alloc ?_ _)))⟩;rw[← N.out,L.out,Lx.gap_blank F.out];rfl
  ·have P:(s.size:Int)≤b:=by omega
   go_wp2
   go_quiet (fail)
   go_wp2;go_ret;refine⟨b,true,S,hb,?_,rfl,Q.drewN _,hF.drewN _⟩;rw[← N.out,CF s b (by omega),Lx.gap_nil]
theorem Be (s:ByteArray) (n:Nat):Lx.hd (sfx s n)=bt s n:=by
 have:=Hn s n 0;unfold Lx.hd;cases h:sfx s n with
 | nil=>rw[h]at this;simpa using this
 | cons c t=>rw[h]at this;simpa using this
def J2 (bx:Nat) (s:ByteArray) (a:Nat) (w:World) (e:Ending) (w':World):Prop :=
 ∃b,a≤b∧b≤s.size∧AO w' bx s b∧Fr bx w w' ∧
  ((∃k:Nat,Lx.number (sfx s a)=some (k,sfx s b)∧(k=2∨k=3)∧e=.returned (.int .i64 k))∨(Lx.number (sfx s a)=none∧e=.returned (.int .i64 0)))
theorem Ik (bx:Nat) (s:ByteArray) (a:Nat) (w:World) (hs:s.size≤4096) (hat:a≤s.size) (h:AO w bx s a) :
  Calls Tryz.prog 206 #[.pointer (some ⟨bx,0,none⟩)] w (J2 bx s a w):=by
 go_enter Tryz.func206,Tryz.ntmps206;go_wp2_with fail;refine (Bm bx s a _ hs (by omega) (by (repeat' (first|(with_reducible assumption)|(with_reducible refine AO.drewN ?_ _)|(with_reducible refine AO.drew ?_))))).mono ?_;rintro e w' ⟨rfl,n1,rfl⟩
 go_upto_if 10 with (fail)
 go_cut [] (λwx=>∃b,a≤b∧b≤s.size∧sfx s b=(if (Lx.hd (sfx s a)).toNat=45 then (sfx s a).drop 1 else sfx s a)∧AO wx bx s b∧Fr bx w wx)
 case first =>
  have c0:=h.c0;have c1:=h.c1;have f1:=h.f1;by_cases h45:(bt s a).toNat=45
  ·have A:=eqT (n:=(bt s a).toNat) (k:=45) (by omega);have Q:=QA h45;clear h45;have H:a<s.size:=by
    rcases ZZ a s.size with h'|h'
    ·exact h'
    ·rw[bt_end _ _ h']at Q;exact absurd Q.out (by decide)
   go_wp2_with fail
   go_meet
   exact⟨a+1,by omega,H,by rw[Be,if_pos Q.out,Aj],(h.drewN _).put (a+1),by (repeat' (first|(with_reducible assumption)|(with_reducible exact But.refl _ _)|(with_reducible refine But.drewN ?_ _)|(with_reducible refine But.drew ?_)|(with_reducible refine Fr.set ?_ _ _)|(with_reducible refine But.alloc ?_ _)))⟩
  ·have A:=eqF (n:=(bt s a).toNat) (k:=45) (by omega);have Q:=QA h45;clear h45;go_wp2_with fail
   go_meet
   exact⟨a,by omega,hat,by rw[Be,if_neg Q.out],by (repeat' (first|(with_reducible assumption)|(with_reducible refine AO.drewN ?_ _)|(with_reducible refine AO.drew ?_))),by (repeat' (first|(with_reducible assumption)|(with_reducible exact But.refl _ _)|(with_reducible refine But.drewN ?_ _)|(with_reducible refine But.drew ?_)|(with_reducible refine Fr.set ?_ _ _)|(with_reducible refine But.alloc ?_ _)))⟩
 case rest =>
  obtain⟨b,au,hb,ak,hS,hF⟩:=hcut;have HN:=QA (Lx.number_at _ _ ak);clear ak;go_wp2_with fail;refine (Bm bx s b _ hs (by omega) (by (repeat' (first|(with_reducible assumption)|(with_reducible refine AO.drewN ?_ _)|(with_reducible refine AO.drew ?_))))).mono ?_;rintro e w' ⟨rfl,n2,rfl⟩;go_wp2_with fail;refine (CH bx s b _ hs hb (by (repeat' (first|(with_reducible assumption)|(with_reducible refine AO.drewN ?_ _)|(with_reducible refine AO.drew ?_))))).mono ?_;rintro e w1 ⟨c,hbc,hc,hdc,rfl,hS1,J⟩;have J:=But.undrew J;have F:=QA hdc;clear hdc;have ac:Fr bx w w1:=hF.trans J;clear J;have af:∀w',AO w' bx s c→Fr bx w w'→((Lx.digits (sfx s b)).length=(sfx s b).length∨((Lx.hd (sfx s b)).toNat=48∧1<(sfx s b).length-(Lx.digits (sfx s b)).length)) →
    J2 bx s a w (.returned (.int .i64 0)) w':=λw' Y h2 h3=>⟨c,by omega,hc,Y,h2,.inr ⟨by rw[HN.out,if_pos h3],rfl⟩⟩
  have L:(Lx.digits (sfx s b)).length=s.size-c:=by
   have Y:=congrArg List.length F.out;rw[AR]at Y;exact Y.symm
  have O:=AR s b;have ab:=QA af;have U:=QA L;have S:=QA O;clear af L O;by_cases hcb:c=b
  ·have A:((c:Int)-(b:Int)==0)=true:=by rw[beq_iff_eq];omega
   have X:=QA hcb;clear hcb;go_wp2_with fail;go_ret;exact ab.out _ hS1 ac (.inl (by rw[U.out,S.out,X.out]))
  ·have A:((c:Int)-(b:Int)==0)=false:=by rw[beq_eq_false_iff_ne];omega
   have X:=QA hcb;clear hcb;by_cases h48:(bt s b).toNat=48∧1<c-b
   ·have e2:=eqT (n:=(bt s b).toNat) (k:=48) (by omega);have e3:decide (1<(c:Int)-(b:Int))=true:=by simp;omega
    have al:=QA h48;clear h48;go_wp2_with fail;go_ret;exact ab.out _ hS1 ac (.inr ⟨by rw[Be];exact al.out.1,by rw[U.out,S.out];have:=al.out.2;omega⟩)
   ·have Z:((((bt s b).toNat:Int)==48)=false)∨((((bt s b).toNat:Int)==48)=true∧decide (1<(c:Int)-(b:Int))=false):=by
     by_cases Y:(bt s b).toNat=48
     ·exact .inr ⟨eqT (by omega),by simp;omega⟩
     ·exact .inl (eqF (by omega))
    have V:Hid (Lx.number (sfx s a)=Lx.numFrac (sfx s c)):=by
     show _=_;rw[HN.out,if_neg,F.out]
     ·rfl
     ·rw[U.out,S.out,Be];have:=X.out;omega
    have ao:a≤c:=by omega
    clear HN ab U S h48 F X hbc au hb;rcases Z with e2|⟨e2,e3⟩
    all_goals
     go_wp2_with fail;refine (Bm bx s c _ hs (by omega) (by (repeat' (first|(with_reducible assumption)|(with_reducible refine AO.drewN ?_ _)|(with_reducible refine AO.drew ?_))))).mono ?_;rintro e w' ⟨rfl,n3,rfl⟩;clear A
     try clear e2
     try clear e3
     go_upto_if 34 with (fail)
     go_cut [3] (λs3 wx=>∃(k:Nat) (d:Nat),s3=.int .i64 k∧(k=2∨k=3)∧a≤d∧d≤s.size∧Lx.number (sfx s a)=Lx.numExp (k,sfx s d)∧AO wx bx s d∧Fr bx w wx)
     case first =>
      have c0:=hS1.c0;have c1:=hS1.c1;have f1:=hS1.f1;by_cases h46:(bt s c).toNat=46
      ·have A:=eqT (n:=(bt s c).toNat) (k:=46) (by omega);have D:=QA h46;clear h46;have H:c<s.size:=by
        rcases ZZ c s.size with h'|h'
        ·exact h'
        ·have:=D.out;rw[bt_end _ _ h']at this;exact absurd this (by decide)
       go_wp2_with fail;refine (CH bx s (c+1) _ hs H ((hS1.drewN _).put (c+1))).mono ?_;rintro e w2 ⟨d,hcd,T,hdd,rfl,o,M⟩;have W:Fr bx w w2:=But.trans (by (repeat' (first|(with_reducible assumption)|(with_reducible exact But.refl _ _)|(with_reducible refine But.drewN ?_ _)|(with_reducible refine But.drew ?_)|(with_reducible refine Fr.set ?_ _ _)|(with_reducible refine But.alloc ?_ _)))) M;have ag:Hid (Lx.numFrac (sfx s c)=if d=c+1 then none else Lx.numExp (3,sfx s d)):=by
        show _=_;have hl:=congrArg List.length hdd;rw[AR]at hl;unfold Lx.numFrac;rw[Be,if_pos D.out,Aj,Lx.digits,← hdd,AR,AR];by_cases hdc:d=c+1
        ·rw[if_pos (by omega),if_pos hdc]
        ·rw[if_neg (by omega),if_neg hdc]
       clear hdd c0 c1 f1 M A;by_cases hdc:d=c+1
       ·have A:((d:Int)-((c:Int)+1)==0)=true:=by rw[beq_iff_eq];omega
        have F:=QA hdc;clear hdc;go_wp2_with fail;go_ret;exact⟨d,by omega,T,o,W,.inr ⟨by rw[V.out,ag.out,if_pos F.out],rfl⟩⟩
       ·have A:((d:Int)-((c:Int)+1)==0)=false:=by rw[beq_eq_false_iff_ne];omega
        have F:=QA hdc;clear hdc;go_wp2_with fail
        go_meet
        exact⟨3,d,rfl,.inr rfl,by omega,T,by rw[V.out,ag.out,if_neg F.out],o,W⟩
      ·have A:=eqF (n:=(bt s c).toNat) (k:=46) (by omega);have D:=QA h46;clear h46;go_wp2_with fail
       go_meet
       exact⟨2,c,rfl,.inl rfl,by omega,hc,by rw[V.out,Lx.numFrac,Be,if_neg D.out],by (repeat' (first|(with_reducible assumption)|(with_reducible refine AO.drewN ?_ _)|(with_reducible refine AO.drew ?_))),by (repeat' (first|(with_reducible assumption)|(with_reducible exact But.refl _ _)|(with_reducible refine But.drewN ?_ _)|(with_reducible refine But.drew ?_)|(with_reducible refine Fr.set ?_ _ _)|(with_reducible refine But.alloc ?_ _)))⟩
     case rest =>
      obtain⟨k,d,rfl,hk,I,T,C,o,M⟩:=hcut;have B:=QA C;have HK:=QA hk;clear C hk V hc ao hS1 ac J h hF hS;go_wp2_with fail;refine (Bm bx s d _ hs (by omega) (by (repeat' (first|(with_reducible assumption)|(with_reducible refine AO.drewN ?_ _)|(with_reducible refine AO.drew ?_))))).mono ?_;rintro e w' ⟨rfl,n4,rfl⟩;have am:=PH (bt s d)
      go_upto_if 48 with (fail)
      go_cut [3] (λs3 wx=>∃(k:Nat) (d:Nat),s3=.int .i64 k∧(k=2∨k=3)∧a≤d∧d≤s.size∧Lx.number (sfx s a)=Lx.numEnd (k,sfx s d)∧AO wx bx s d∧Fr bx w wx)
      case first =>
       have c0:=o.c0;have c1:=o.c1;have f1:=o.f1;by_cases h101:(bt s d).toNat ||| 32=101
       ·have A:((((bt s d).toNat ||| 32:Nat):Int)==101)=true:=eqT (by omega);have H:d<s.size:=by
         rcases ZZ d s.size with h'|h'
         ·exact h'
         ·rw[bt_end _ _ h']at h101;exact absurd h101 (by decide)
        have N:=QA h101;clear h101;go_wp2_with fail;refine (Bm bx s (d+1) _ hs H ((o.drewN _).put (d+1))).mono ?_;rintro e w3 ⟨rfl,n5,hw3⟩;have P:AO w3 bx s (d+1):=by rw[hw3];exact AO.drewN ((o.drewN _).put (d+1)) _
        have W:Fr bx w w3:=by rw[hw3];(repeat' (first|(with_reducible assumption)|(with_reducible exact But.refl _ _)|(with_reducible refine But.drewN ?_ _)|(with_reducible refine But.drew ?_)|(with_reducible refine Fr.set ?_ _ _)|(with_reducible refine But.alloc ?_ _)))
        clear hw3 c0 c1 f1 A am;have c0:=P.c0;have c1:=P.c1;have f1:=P.f1;have ar:((((bt s (d+1)).toNat:Int)==43)=true∧((bt s (d+1)).toNat=43∨(bt s (d+1)).toNat=45)) ∨
          ((((bt s (d+1)).toNat:Int)==43)=false∧(((bt s (d+1)).toNat:Int)==45)=true∧((bt s (d+1)).toNat=43∨(bt s (d+1)).toNat=45)) ∨
          ((((bt s (d+1)).toNat:Int)==43)=false∧(((bt s (d+1)).toNat:Int)==45)=false∧¬((bt s (d+1)).toNat=43∨(bt s (d+1)).toNat=45)):=by
         by_cases Y:(bt s (d+1)).toNat=43
         ·exact .inl ⟨eqT (by omega),.inl Y⟩
         ·by_cases h2:(bt s (d+1)).toNat=45
          ·exact .inr (.inl ⟨eqF (by omega),eqT (by omega),.inr h2⟩)
          ·exact .inr (.inr ⟨eqF (by omega),eqF (by omega),by omega⟩)
        have HX:Hid (Lx.numExp (k,sfx s d)=(let l2:=if (bt s (d+1)).toNat=43∨(bt s (d+1)).toNat=45 then (sfx s (d+1)).drop 1 else sfx s (d+1);if (Lx.digits l2).length=l2.length then none else Lx.numEnd (3,Lx.digits l2))):=by
         show _=_;unfold Lx.numExp;rw[if_pos (by rw[Be,UInt8.toNat_or];exact N.out),Aj];simp only[Be]
        have aj:∀g f,sfx s g=(if (bt s (d+1)).toNat=43∨(bt s (d+1)).toNat=45 then (sfx s (d+1)).drop 1 else sfx s (d+1))→g≤f→f≤s.size→sfx s f=(sfx s g).dropWhile Lx.isDigit →
          Lx.number (sfx s a)=if f=g then none else Lx.numEnd (3,sfx s f):=λg f hg hgf hf hd'=>by
         rw[B.out,HX.out];simp only[← hg];have hl:=congrArg List.length hd';rw[AR]at hl;unfold Lx.digits;rw[← hd',AR,AR];by_cases hfg:f=g
         ·rw[if_pos (by omega),if_pos hfg]
         ·rw[if_neg (by omega),if_neg hfg]
        have HY:=QA aj;clear HX aj B;have ax:d+1≤s.size:=H;rcases ar with⟨A,e3⟩|⟨A,e2,e3⟩|⟨A,e2,e3⟩
        all_goals
         have E3:=QA e3;clear e3;go_wp2_with fail
         first
         | (
           have ae:d+1<s.size:=by
            rcases ZZ (d+1) s.size with h'|h'
            ·exact h'
            ·have:=E3.out;rw[bt_end _ _ h']at this;exact absurd this (by decide)
           refine (CH bx s (d+1+1) _ hs ae (P.put (d+1+1))).mono ?_;rintro e w4 ⟨f,hgf,hf,hdf,rfl,hS4,hF5⟩;have R:Fr bx w w4:=But.trans (by (repeat' (first|(with_reducible assumption)|(with_reducible exact But.refl _ _)|(with_reducible refine But.drewN ?_ _)|(with_reducible refine But.drew ?_)|(with_reducible refine Fr.set ?_ _ _)|(with_reducible refine But.alloc ?_ _)))) hF5;have HZ:=QA (HY.out (d+1+1) f (by rw[if_pos E3.out,Aj]) hgf hf hdf);clear hdf hF5 c0 c1 f1 A;by_cases hfg:f=d+1+1
           ·have e4:((f:Int)-((d:Int)+1+1)==0)=true:=by rw[beq_iff_eq];omega
            have E:=QA hfg;clear hfg;go_wp2_with fail;go_ret;exact⟨f,by omega,hf,hS4,R,.inr ⟨by rw[HZ.out,if_pos E.out],rfl⟩⟩
           ·have e4:((f:Int)-((d:Int)+1+1)==0)=false:=by rw[beq_eq_false_iff_ne];omega
            have E:=QA hfg;clear hfg;go_wp2_with fail
            go_meet
            exact⟨3,f,rfl,.inr rfl,by omega,hf,by rw[HZ.out,if_neg E.out],hS4,R⟩)
         | (
           refine (CH bx s (d+1) _ hs ax P).mono ?_;rintro e w4 ⟨f,hgf,hf,hdf,rfl,hS4,hF5⟩;have R:Fr bx w w4:=But.trans W hF5;have HZ:=QA (HY.out (d+1) f (by rw[if_neg E3.out]) hgf hf hdf);clear hdf hF5 c0 c1 f1 A;by_cases hfg:f=d+1
           ·have e4:((f:Int)-((d:Int)+1)==0)=true:=by rw[beq_iff_eq];omega
            have E:=QA hfg;clear hfg;go_wp2_with fail;go_ret;exact⟨f,by omega,hf,hS4,R,.inr ⟨by rw[HZ.out,if_pos E.out],rfl⟩⟩
           ·have e4:((f:Int)-((d:Int)+1)==0)=false:=by rw[beq_eq_false_iff_ne];omega
            have E:=QA hfg;clear hfg;go_wp2_with fail
            go_meet
            exact⟨3,f,rfl,.inr rfl,by omega,hf,by rw[HZ.out,if_neg E.out],hS4,R⟩)
       ·have A:((((bt s d).toNat ||| 32:Nat):Int)==101)=false:=eqF (by omega);have N:=QA h101;clear h101;go_wp2_with fail
        go_meet
        exact⟨k,d,rfl,HK.out,I,T,by rw[B.out,Lx.numExp,if_neg (by rw[Be,UInt8.toNat_or];exact N.out)],by (repeat' (first|(with_reducible assumption)|(with_reducible refine AO.drewN ?_ _)|(with_reducible refine AO.drew ?_))),by (repeat' (first|(with_reducible assumption)|(with_reducible exact But.refl _ _)|(with_reducible refine But.drewN ?_ _)|(with_reducible refine But.drew ?_)|(with_reducible refine Fr.set ?_ _ _)|(with_reducible refine But.alloc ?_ _)))⟩
      case rest =>
       clear o M B HK am;obtain⟨k,d,rfl,hk,I,T,C,o,M⟩:=hcut;have B:=QA C;have HK:=QA hk;clear C hk;go_wp2_with fail;refine (Bm bx s d _ hs (by omega) (by (repeat' (first|(with_reducible assumption)|(with_reducible refine AO.drewN ?_ _)|(with_reducible refine AO.drew ?_))))).mono ?_;rintro e w' ⟨rfl,n5,rfl⟩;by_cases h46:(bt s d).toNat=46
       ·have A:=eqT (n:=(bt s d).toNat) (k:=46) (by omega);have D:=QA h46;clear h46;go_wp2_with fail;go_ret;exact⟨d,I,T,by (repeat' (first|(with_reducible assumption)|(with_reducible refine AO.drewN ?_ _)|(with_reducible refine AO.drew ?_))),by (repeat' (first|(with_reducible assumption)|(with_reducible exact But.refl _ _)|(with_reducible refine But.drewN ?_ _)|(with_reducible refine But.drew ?_)|(with_reducible refine Fr.set ?_ _ _)|(with_reducible refine But.alloc ?_ _))),.inr ⟨by rw[B.out,Lx.numEnd,Be,if_pos (.inl D.out)],rfl⟩⟩
       ·have A:=eqF (n:=(bt s d).toNat) (k:=46) (by omega);have D:=QA h46;clear h46;cases hlet:Lx.isLetter (bt s d)
        ·have G:=QA hlet;clear hlet;cases hdig:Lx.isDigit (bt s d)
         ·have K:=QA hdig;clear hdig;go_wp2_with (first|(go_at_call 158;refine (AW _ _).mono ?_;rintro e w' ⟨rfl,rfl⟩;rw[G.out])|(go_at_call 159;refine (Ak _ _).mono ?_;rintro e w' ⟨rfl,rfl⟩;rw[K.out]));go_ret;refine⟨d,I,T,by (repeat' (first|(with_reducible assumption)|(with_reducible refine AO.drewN ?_ _)|(with_reducible refine AO.drew ?_))),by (repeat' (first|(with_reducible assumption)|(with_reducible exact But.refl _ _)|(with_reducible refine But.drewN ?_ _)|(with_reducible refine But.drew ?_)|(with_reducible refine Fr.set ?_ _ _)|(with_reducible refine But.alloc ?_ _))),.inl ⟨k,?_,HK.out,rfl⟩⟩;rw[B.out,Lx.numEnd,Be,G.out,K.out,if_neg (by have:=D.out;simp[this])]
         ·have K:=QA hdig;clear hdig;go_wp2_with (first|(go_at_call 158;refine (AW _ _).mono ?_;rintro e w' ⟨rfl,rfl⟩;rw[G.out])|(go_at_call 159;refine (Ak _ _).mono ?_;rintro e w' ⟨rfl,rfl⟩;rw[K.out]));go_ret;exact⟨d,I,T,by (repeat' (first|(with_reducible assumption)|(with_reducible refine AO.drewN ?_ _)|(with_reducible refine AO.drew ?_))),by (repeat' (first|(with_reducible assumption)|(with_reducible exact But.refl _ _)|(with_reducible refine But.drewN ?_ _)|(with_reducible refine But.drew ?_)|(with_reducible refine Fr.set ?_ _ _)|(with_reducible refine But.alloc ?_ _))),.inr ⟨by rw[B.out,Lx.numEnd,Be,if_pos (.inr (.inr K.out))],rfl⟩⟩
        ·have G:=QA hlet;clear hlet;go_wp2_with (first|(go_at_call 158;refine (AW _ _).mono ?_;rintro e w' ⟨rfl,rfl⟩;rw[G.out])|(go_at_call 159;refine (Ak _ _).mono ?_;rintro e w' ⟨rfl,rfl⟩));go_ret;exact⟨d,I,T,by (repeat' (first|(with_reducible assumption)|(with_reducible refine AO.drewN ?_ _)|(with_reducible refine AO.drew ?_))),by (repeat' (first|(with_reducible assumption)|(with_reducible exact But.refl _ _)|(with_reducible refine But.drewN ?_ _)|(with_reducible refine But.drew ?_)|(with_reducible refine Fr.set ?_ _ _)|(with_reducible refine But.alloc ?_ _))),.inr ⟨by rw[B.out,Lx.numEnd,Be,if_pos (.inr (.inl G.out))],rfl⟩⟩
def hexDigits:List UInt8:=[48,49,50,51,52,53,54,55,56,57,97,98,99,100,101,102]
def Mj (c:UInt8):Option Nat :=
 if Lib.indexByte hexDigits (c ||| 32)<0∨c.toNat<48∨(57<c.toNat∧c.toNat<65) then none else some (Lib.indexByte hexDigits (c ||| 32)).toNat
theorem Kx:∀n:Fin 256,Mj (UInt8.ofNat n.val)=Lx.hexv (UInt8.ofNat n.val)∧Lib.indexByte hexDigits (UInt8.ofNat n.val ||| 32)<16∧-1≤Lib.indexByte hexDigits (UInt8.ofNat n.val ||| 32):=by decide +kernel
theorem MV (c:UInt8):Mj c=Lx.hexv c∧Lib.indexByte hexDigits (c ||| 32)<16∧-1≤Lib.indexByte hexDigits (c ||| 32):=by
 have:=Kx ⟨c.toNat,UInt8.toNat_lt c⟩
 simpa using this
theorem PT (c:UInt8) (w:World) :
  Calls Tryz.prog 163 #[.string ⟨#[48,49,50,51,52,53,54,55,56,57,97,98,99,100,101,102]⟩,.int .u8 ((c.toNat ||| 32:Nat):Int)] w λe w'=>e=.returned (.int .i64 (Lib.indexByte hexDigits (c ||| 32)))∧w'=w:=by
 refine (Tryz.strings_IndexByte _ _ _).mono ?_;rintro e w' ⟨rfl,rfl⟩;refine⟨?_,rfl⟩;have o:(((c.toNat ||| 32:Nat):Int)).toNat.toUInt8=c ||| 32:=by
  rw[Int.toNat_natCast,show c.toNat ||| 32=(c ||| 32).toNat from (UInt8.toNat_or c 32).symm];simp
 rw[o];rfl
def Ev (o:Option Nat):Int:=match o with|some v=>v|none=>-1
def N7 (s:ByteArray) (w:World) (e:Ending) (w':World):Prop:=e=.returned (.int .i32 (Ev (Lx.hex s.data.toList)))∧w'=w
theorem D2 {s:ByteArray} {k r:Nat} (hk:k<4) (hks:k<s.size) (h:Lx.hexv (bt s k)=none):Lx.hexs (4-k) r (sfx s k)=none:=by
 rw[Ar s k hks,show 4-k=(3-k)+1 by omega,Lx.hexs,h]
theorem Ko {s:ByteArray} {k r v:Nat} (hk:k<4) (hks:k<s.size) (h:Lx.hexv (bt s k)=some v):Lx.hexs (4-k) r (sfx s k)=Lx.hexs (4-(k+1)) (r*16+v) (sfx s (k+1)):=by
 rw[Ar s k hks,show 4-k=(3-k)+1 by omega,Lx.hexs,h];rw[show 4-(k+1)=3-k by omega]
theorem FO:∀(n r:Nat) (l:List UInt8),l.length<n→Lx.hexs n r l=none
 | 0,_,_,h=>by omega
 | n+1,r,[],_=>rfl
 | n+1,r,c::l,h=>by
  unfold Lx.hexs;split
  ·rfl
  ·exact FO n _ l (by simpa using h)
theorem Nc (s:ByteArray) (w:World) (hs:s.size≤4096):Calls Tryz.prog 228 #[.string s] w (N7 s w):=by
 by_cases h4:s.size<4
 ·have E:(s.size:Int)<4:=by omega
  go_enter Tryz.func228,Tryz.ntmps228;go_wp2;go_ret;have:Lx.hex s.data.toList=none:=FO 4 0 _ (by simpa using h4);exact⟨by rw[this];rfl,rfl⟩
 ·have E:(4:Int)≤s.size:=by omega
  have A:Lx.hexs (4-0) 0 (sfx s 0)=Lx.hex s.data.toList:=by rw[C1];rfl
  have I:=QA A;clear A;go_enter Tryz.func228,Tryz.ntmps228;go_wp2
  go_loop [3,9] (λs3 s9=>∃(k r:Nat),k≤4∧r<16 ^ k∧s3=.int .i32 r∧s9=.int .i64 k∧Lx.hexs (4-k) r (sfx s k)=Lx.hex s.data.toList) (λ_ s9=>(4-intOf s9).toNat)
  case atStart=>exact⟨0,0,by omega,by decide,rfl,rfl,I.out⟩
  case round =>
   obtain⟨k,r,U,N,rfl,rfl,L⟩:=hrel;have B:=QA L;have M:=QA N;clear L N;by_cases hk4:k<4
   ·have O:(k:Int)<s.size:=by omega
    have K:r<4096:=by
     have P:=M.out;have V:16 ^ k≤16 ^ 3:=Nat.pow_le_pow_right (by omega) (by omega);omega
    obtain⟨g1,g2,R⟩:=MV (bt s k);have T:=PH (bt s k);have H:=PT (bt s k);unfold Mj at g1
    generalize Lib.indexByte hexDigits (bt s k ||| 32)=kk at g1 g2 R H
    have S:=QA g1;have Q:=QA H;clear g1 H;have o:(decide (kk<0)=true∧Lx.hexv (bt s k)=none)∨(decide (kk<0)=false∧decide (((bt s k).toNat:Int)<48)=true∧Lx.hexv (bt s k)=none) ∨
      (decide (kk<0)=false∧decide (((bt s k).toNat:Int)<48)=false∧decide (57<((bt s k).toNat:Int))=true∧decide (((bt s k).toNat:Int)<65)=true∧Lx.hexv (bt s k)=none) ∨
      (decide (kk<0)=false∧decide (((bt s k).toNat:Int)<48)=false∧decide (57<((bt s k).toNat:Int))=true∧decide (((bt s k).toNat:Int)<65)=false∧Lx.hexv (bt s k)=some kk.toNat∧0≤kk) ∨
      (decide (kk<0)=false∧decide (((bt s k).toNat:Int)<48)=false∧decide (57<((bt s k).toNat:Int))=false∧Lx.hexv (bt s k)=some kk.toNat∧0≤kk):=by
     have C:=S.out;by_cases a1:kk<0
     ·exact .inl ⟨by simpa using a1,by rw[← C,if_pos (.inl a1)]⟩
     ·by_cases a2:(bt s k).toNat<48
      ·exact .inr (.inl ⟨by simpa using a1,by simp;omega,by rw[← C,if_pos (.inr (.inl a2))]⟩)
      ·by_cases a3:57<(bt s k).toNat
       ·by_cases a4:(bt s k).toNat<65
        ·exact .inr (.inr (.inl ⟨by simpa using a1,by simp;omega,by simp;omega,by simp;omega,by rw[← C,if_pos (.inr (.inr ⟨a3,a4⟩))]⟩))
        ·exact .inr (.inr (.inr (.inl ⟨by simpa using a1,by simp;omega,by simp;omega,by simp;omega,by rw[← C,if_neg (by omega)],by omega⟩)))
       ·exact .inr (.inr (.inr (.inr ⟨by simpa using a1,by simp;omega,by simp;omega,by rw[← C,if_neg (by omega)],by omega⟩)))
    rcases o with⟨e1,e5⟩|⟨e1,e2,e5⟩|⟨e1,e2,e3,e4,e5⟩|⟨e1,e2,e3,e4,e5,e6⟩|⟨e1,e2,e3,e5,e6⟩
    all_goals
     have D:=QA e5;clear e5;go_wp2_with (go_at_call 163;refine (Q.out _).mono ?_;rintro e w' ⟨rfl,hw'⟩;subst hw')
    ·go_ret;exact⟨by rw[← B.out,D2 hk4 (by omega) D.out];rfl,rfl⟩
    ·go_ret;exact⟨by rw[← B.out,D2 hk4 (by omega) D.out];rfl,rfl⟩
    ·go_ret;exact⟨by rw[← B.out,D2 hk4 (by omega) D.out];rfl,rfl⟩
    all_goals
     obtain⟨v,rfl⟩:=Int.eq_ofNat_of_zero_le e6;have G:bits BinOp.or IntKind.i32 ((r:Int)*16) (v:Int)=((r*16+v:Nat):Int):=by
      rw[bits_join .i32 31 (by decide) wraps_i32 4 _ _ (by omega) (by omega) (by omega) (by omega) (by omega) (by omega)];omega
     refine⟨⟨k+1,r*16+v,by omega,?_,by rw[G],by go_num,?_⟩,by simp[intOf];omega⟩
     ·have P:=M.out;rw[Nat.pow_succ];omega
     ·rw[← B.out];have:=Ko (r:=r) hk4 (by omega) D.out;rw[Int.toNat_natCast]at this;exact this.symm
   ·have J:(4:Int)≤k:=by omega
    have F:k=4:=by omega
    go_wp2;go_ret;refine⟨?_,rfl⟩;rw[← B.out,F];rfl
end Go.Proofs.YtefjgpkpplkkgaaGreatDoor
