/-
  A region that draws its order: quiet operations, then one that may do anything, then quiet ones again, and so on: walked once, in the text's order. After the kit's StillTail and Deep.Quiet, whose proofs are turned here: the class of worlds is 'w after some draws', and it begins anew behind each operation that may write.
-/
import Derived.StillTail
import Derived.Deep.QuietTactic
import Derived.BigQuiet
open Bool renaming and_eq_true → ZA
open List renaming length_cons → QO, all_eq_true → ZK
namespace Go.Proofs.YtjldahcckmmenaaGreatDoor
set_option linter.unusedSimpArgs false
set_option linter.unusedVariables false
open Go Go.RowKit
section
variable {P : Program} {ops : Array Oper} {md : Region.Mode} {C : World → Prop}
structure Ky (ops:Array Oper) (k:Nat) (listed:Array Bool):Prop where
 size:listed.size=ops.size
 yes:∀j,j<k→j<ops.size→listed.getD j false=true
 no:∀j,k≤j→j<ops.size→listed.getD j true=false
theorem Ky.set {k:Nat} {listed:Array Bool} (h:Ky ops k listed) (hk:k<ops.size):Ky ops (k+1) (listed.setIfInBounds k true) :=
 ⟨by simp[h.size],λj hj hj'=>by
  by_cases e:k=j
  ·subst e;simp[h.size,hk]
  ·rw[getD_set_ne false e];exact h.yes j (by omega) hj',λj hj hj'=>by rw[getD_set_ne true (by omega)];exact h.no j (by omega) hj'⟩
def sinkB (md:Region.Mode) (ops:Array Oper) (k n:Nat):Bool :=
 ((List.range n).all λi=>decide (i<k)||(List.range (n+1)).any λj=>decide (i<j)&&Region.waitsFor md ops j i) &&
 ((List.range ops.size).all λt=>decide (t≤n)||(List.range t).any λj=>decide (n≤j)&&Region.waitsFor md ops t j)
structure Seg (md:Region.Mode) (ops:Array Oper) (k n:Nat) (listed:Array Bool):Prop where
 size:listed.size=ops.size
 below:∀j,j<k→j<ops.size→listed.getD j false=true
 closed:∀j oj,ops[j]?=some oj→listed.getD j false=true→∀e∈oj.after,Region.binds md e=true→listed.getD e.on false=true
 tail:∀t,n≤t→t<ops.size→listed.getD t true=false
theorem Seg.set {k n i:Nat} {listed:Array Bool} (inv:Seg md ops k n listed) (hi:i∈Region.ready md ops listed) (hin:i<n):Seg md ops k n (listed.setIfInBounds i true):=by
 obtain⟨_,B,A,o⟩:=mem_ready.1 hi;refine⟨by simp[inv.size],λj hj hj'=>getD_set_true (inv.below j hj hj'),λj oj hj hl e he hb=>?_,λt ht ht'=>by rw[getD_set_ne true (by omega)];exact inv.tail t ht ht'⟩;by_cases hij:i=j
 ·subst hij;have:oj=B:=Option.some.inj (hj.symm.trans A);subst this;exact getD_set_true (o e he hb)
 ·rw[getD_set_ne false hij]at hl;exact getD_set_true (inv.closed j oj hj hl e he hb)
theorem Em {k n:Nat} {listed:Array Bool} (hs:sinkB md ops k n=true) (hn:n<ops.size) (inv:Seg md ops k n listed) :
  ∀(d i:Nat),n-i=d→i<n→listed.getD i true=false→∀t,n≤t→t ∉ Region.ready md ops listed:=by
 simp only[sinkB,ZA]at hs;intro d
 induction d using Nat.strongRecOn with
 | _ d ih =>
  intro i hd hi hun t ht hr;obtain⟨_,N,E,C⟩:=mem_ready.1 hr;have H:t<ops.size:=(Array.getElem?_eq_some_iff.1 E).1;by_cases htn:t=n
  ·subst htn;have o:=ZK.1 hs.1 i (List.mem_range.2 hi);simp only[Bool.or_eq_true,decide_eq_true_eq]at o;rcases o with o|o
   ·have:=inv.below i o (by omega);rw[getD_both hun]at this;cases this
   ·obtain⟨j,M,A⟩:=List.any_eq_true.1 o;simp only[ZA,decide_eq_true_eq]at A;obtain⟨O,G,e,I,J,B⟩:=Region.waitsFor_spec A.2;have P:j≤t:=by have:=List.mem_range.1 M;omega
    by_cases F:j=t
    ·subst F;have:O=N:=Option.some.inj (G.symm.trans E);subst this;have D:=C e I J;rw[B,getD_both hun]at D;cases D
    ·cases hl:listed.getD j false with
     | true =>
      have D:=inv.closed j O G hl e I J;rw[B,getD_both hun]at D;cases D
     | false =>
      have L:j<listed.size:=by rw[inv.size];omega
      exact ih (t-j) (by omega) j rfl (by omega) (getD_in L hl) t (Nat.le_refl _) hr
  ·have o:=ZK.1 hs.2 t (List.mem_range.2 H);simp only[Bool.or_eq_true,decide_eq_true_eq]at o;rcases o with o|o
   ·omega
   ·obtain⟨j,M,A⟩:=List.any_eq_true.1 o;simp only[ZA,decide_eq_true_eq]at A;obtain⟨Q,K,e,I,J,B⟩:=Region.waitsFor_spec A.2;have:Q=N:=Option.some.inj (K.symm.trans E);subst this;have D:=C e I J;have F:=List.mem_range.1 M;rw[B,getD_both (inv.tail j (by omega) (by omega))]at D;cases D
def D6 (P:Program) (md:Region.Mode) (ops:Array Oper) (C:World→Prop) (n:Nat) (L:Array Bool→Act→Prop):Nat→Array Bool→Act→Prop
 | 0,listed,a=>L listed a
 | f+1,listed,a =>
  Region.ready md ops listed≠[]∧∀i∈Region.ready md ops listed,i<n∧qOp P ops C i (D6 P md ops C n L f (listed.setIfInBounds i true)) a
theorem ES {n g:Nat} {L:Array Bool→Act→Prop} {Q':Exit→Act→World→Prop} (hL:∀listed a w,C w→L listed a→wpAny P md ops Q' g listed a w) :
  ∀(f:Nat) (listed:Array Bool) (a:Act) (w:World),C w→D6 P md ops C n L f listed a→wpAny P md ops Q' (f+g) listed a w
 | 0,listed,a,w,hw,h=>by rw[Nat.zero_add];exact hL _ _ _ hw h
 | f+1,listed,a,w,hw,h=>by
  rw[show f+1+g=(f+g)+1 by omega];exact⟨λh0=>absurd h0 h.1,λi hi=>wpOp_of_qOp hw (λa' w' hw' h'=>ES hL f _ a' w' hw' h') (h.2 i hi).2⟩
theorem Fj {k n i:Nat} {oi:Oper} {v:Value} {L:Array Bool→Act→Prop} (hi:ops[i]?=some oi) (hsel:∀(j:Nat) (o:Oper) cs b,ops[j]?=some o→o.op≠.select cs b)
  (hs:sinkB md ops k n=true) (hn:n<ops.size) (hin:i<n)
  (hdone:∀listed a,L listed a→∀j∈Region.ready md ops listed,n≤j) :
  ∀(f:Nat) (listed:Array Bool) (a:Act),Seg md ops k n listed →
   (∀j oj,ops[j]?=some oj→j≠i→listed.getD j true=false→(∀e∈oj.after,Region.binds md e=true→e.on≠i)→oi.apart ops oj=true) →
   i∈Region.ready md ops listed→YieldsIn P ops C oi v a →
   D6 P md ops C n L f (listed.setIfInBounds i true) (a.put oi.dst v)→D6 P md ops C n L (f+1) listed a:=by
 intro f
 induction f with
 | zero =>
  intro listed a inv _ hr hy H;have A:=(mem_ready.1 hr).1;refine⟨λh=>(by rw[h]at hr;cases hr),λj hj=>?_⟩;have D:j<n:=by
   rcases Nat.lt_or_ge j n with h|h
   ·exact h
   ·exact absurd hj (Em hs hn inv _ i rfl hin A j h)
  refine⟨D,?_⟩;by_cases hji:j=i
  ·subst hji;exact hy.qOp hi H
  ·have:=hdone _ _ H j (ready_mono hj hji);omega
 | succ f ih =>
  intro listed a inv hfree hr hy H;have A:=(mem_ready.1 hr).1;refine⟨λh=>(by rw[h]at hr;cases hr),λj hj=>?_⟩;have D:j<n:=by
   rcases Nat.lt_or_ge j n with h|h
   ·exact h
   ·exact absurd hj (Em hs hn inv _ i rfl hin A j h)
  refine⟨D,?_⟩;by_cases hji:j=i
  ·subst hji;exact hy.qOp hi H
  ·have J:=(H.2 j (ready_mono hj hji)).2;obtain⟨E,oj,F,G⟩:=mem_ready.1 hj;have I:∀e∈oj.after,Region.binds md e=true→e.on≠i:=λe he hb heq=>by
    have J:=G e he hb;rw[heq,getD_both A]at J;cases J
   have K:=qOp_put F (hfree j oj F hji E I) (λcs b=>hsel i oi cs b hi) (λcs b=>hsel j oj cs b F) hy J;have B:∀k ok,ops[k]?=some ok→k≠i→(listed.setIfInBounds j true).getD k true=false →
     (∀e∈ok.after,Region.binds md e=true→e.on≠i)→oi.apart ops ok=true:=λk ok hk hki A hno=>by
    refine hfree k ok hk hki ?_ hno;by_cases hjk:j=k
    ·subst hjk;exact E
    ·rw[getD_set_ne true hjk]at A;exact A
   refine qOp_mono (λa' h3=>ih (listed.setIfInBounds j true) a' (inv.set hj D) B (ready_mono hr (Ne.symm hji)) h3.1 ?_) K;rw[Array.setIfInBounds_comm _ _ hji];exact h3.2
def J6 (md:Region.Mode) (ops:Array Oper):Nat→Nat→Array Bool→Bool
 | 0,_,_=>true
 | f+1,k,listed=>(Region.ready md ops listed).contains k&&Region.free md ops listed k&&J6 md ops f (k+1) (listed.setIfInBounds k true)
def Az (m k:Nat):Array Bool:=(Array.range m).map λj=>decide (j<k)
theorem Dw (m k:Nat):(Az m k).size=m:=by simp[Az]
theorem Cd (m k j:Nat) (h:j<m) (d:Bool):(Az m k).getD j d=decide (j<k):=by simp[Az,h]
theorem DR (m k:Nat) (_h:k<m):(Az m k).setIfInBounds k true=Az m (k+1):=by
 apply Array.ext
 ·simp[Az]
 ·intro i h1 h2;have A:i<m:=by simpa [Az] using h2
  have o:i<(Az m k).size:=by rw[Dw];exact A
  rw[Array.getElem_setIfInBounds o];simp only[Az,Array.getElem_map,Array.getElem_range];split<;>simp<;>omega
theorem Gv (m:Nat):Array.replicate m false=Az m 0:=by
 apply Array.ext<;>simp[Az]
def JV (md:Region.Mode) (ops:Array Oper):Bool:=(List.range ops.size).all λj=>match ops[j]? with
 | some oj=>oj.after.all λe=>!Region.binds md e||decide (e.on<j)
 | none=>true
theorem IR {k n:Nat} (hb:JV md ops=true) (hkn:k≤n):Seg md ops k n (Az ops.size k):=by
 refine⟨Dw _ _,λj hj hj'=>by rw[Cd _ _ _ hj'];simpa using hj,λj oj hj hl e he hbd=>?_,λt ht ht'=>by rw[Cd _ _ _ ht'];simp;omega⟩;have o:j<ops.size:=(Array.getElem?_eq_some_iff.1 hj).1;rw[Cd _ _ _ o]at hl;have A:=ZK.1 hb j (List.mem_range.2 o);simp only[hj]at A;have B:=Array.all_eq_true_iff_forall_mem.1 A e he;simp only[Bool.or_eq_true,Bool.not_eq_true',decide_eq_true_eq,hbd,Bool.true_eq_false,false_or]at B;have:j<k:=by simpa using hl
 rw[Cd _ _ _ (by omega)];simp;omega
theorem Dt {k0 n:Nat} {Lq:Act→Prop} (hsel:Region.noSelect ops=true) (hs:sinkB md ops k0 n=true) (hn:n<ops.size) (hdone:∀j∈Region.ready md ops (Az ops.size n),n≤j) :
  ∀(l:List Oper) (k:Nat) (a:Act),(∀j,j<l.length→l[j]?=ops[k+j]?)→k+l.length=n→Seg md ops k0 n (Az ops.size k) →
  J6 md ops l.length k (Az ops.size k)=true→wpQuiet P ops C Lq l a →
  D6 P md ops C n (λlisted' a'=>listed'=Az ops.size n∧Lq a') l.length (Az ops.size k) a
 | [],k,a,_,hk,_,_,h=>by
  have:k=n:=by simpa using hk
  subst this;exact⟨rfl,h⟩
 | o::l,k,a,hl,hk,inv,hB,h=>by
  have F:ops[k]?=some o:=by simpa using (hl 0 (by simp)).symm
  simp only[QO,J6,ZA]at hB;obtain⟨⟨J,H⟩,D⟩:=hB;have B:k<n:=by simp only[QO]at hk;omega
  have E:k∈Region.ready md ops (Az ops.size k):=by simpa using J
  have G:qOp P ops C k (wpQuiet P ops C Lq l) a:=by unfold qOp;simp only[F];exact h
  obtain⟨v,I,K⟩:=yieldsIn_of_qOp F G;have A:=inv.set E B;rw[DR _ _ (by omega)]at A D;refine Fj F (Region.noSelect_spec hsel) hs hn B (λlisted' a' hL=>by rw[hL.1];exact hdone) l.length (Az ops.size k) a inv (Region.free_spec F H) E I ?_;rw[DR _ _ (by omega)];exact Dt hsel hs hn hdone l (k+1) _ (λj hj=>by have:=hl (j+1) (by simp;omega);simpa [Nat.add_assoc,Nat.add_comm 1 j] using this) (by simp only[QO]at hk;omega) A D K
def Bo (P:Program) (l:List Oper) (Q:Exit→Act→World→Prop):List Nat→Nat→Act→World→Prop
 | [],k,a,w=>wpQuiet P l.toArray (λw'=>∃n,w'=w.drewN n) (λa'=>∀w',(∃n,w'=w.drewN n)→Q .normal a' w') (l.drop k) a
 | n::ns,k,a,w=>wpQuiet P l.toArray (λw'=>∃n,w'=w.drewN n) (λa'=>∀w',(∃n,w'=w.drewN n) →
   wpList P l.toArray (Exit.then (Bo P l Q ns (n+1)) Q) ((l.drop n).take 1) a' w') ((l.drop k).take (n-k)) a
def Jg (md:Region.Mode) (ops:Array Oper):List Nat→Nat→Bool
 | [],k=>Region.lexFrom md ops (ops.size-k) k (Az ops.size k)
 | n::ns,k=>decide (k≤n)&&decide (n<ops.size)&&sinkB md ops k n&&J6 md ops (n-k) k (Az ops.size k)&&decide (Region.ready md ops (Az ops.size n)=[n])&&Jg md ops ns (n+1)
def Kl (md:Region.Mode) (ops:Array Oper) (ns:List Nat):Bool:=Region.noSelect ops&&JV md ops&&Jg md ops ns 0
theorem C8 {l:List Oper} {Q:Exit→Act→World→Prop} (hsel:Region.noSelect l.toArray=true) (hb:JV md l.toArray=true) :
  ∀(ns:List Nat) (k:Nat) (a:Act) (w:World),Jg md l.toArray ns k=true→k≤l.length→Bo P l Q ns k a w→∀w',(∃n,w'=w.drewN n) →
   wpAny P md l.toArray Q (l.length-k) (Az l.length k) a w'
 | [],k,a,w,hB,hk,h,w',hw'=>by
  refine wpAny_of_quiet (C:=λw'=>∃n,w'=w.drewN n) (Q:=λa'=>∀w',(∃n,w'=w.drewN n)→Q .normal a' w') (λ_ w' hw' h=>h w' hw') _ _ _ _ hw' ?_;have U:(l.drop k).length=l.length-k:=by simp
  have:=wpAnyQ_lex (P:=P) (C:=λw'=>∃n,w'=w.drewN n) (md:=md) (Q:=λa'=>∀w',(∃n,w'=w.drewN n)→Q .normal a' w') hsel (l.drop k) k (Az l.length k) a (λj=>by simp[List.getElem?_drop]) (by
   rw[U];simpa [Jg] using hB) h
  rwa [U]at this
 | n::ns,k,a,w,hB,hk,h,w',hw'=>by
  simp only[Jg,ZA,decide_eq_true_eq,List.size_toArray]at hB;obtain⟨⟨⟨⟨⟨R,F⟩,D⟩,V⟩,T⟩,M⟩:=hB;have A:((l.drop k).take (n-k)).length=n-k:=by simp;omega
  have H:=Dt (P:=P) (C:=λw'=>∃n,w'=w.drewN n) (md:=md) hsel D (by simpa using F) (by
    intro j hj;rw[List.size_toArray,T]at hj;simp at hj;omega) ((l.drop k).take (n-k)) k a (λj hj=>by
    rw[A]at hj;simp[List.getElem?_drop,hj]) (by rw[A];omega)
   (by exact IR hb R) (by rw[A];simpa using V) h
  rw[A]at H;have:=ES (P:=P) (C:=λw'=>∃n,w'=w.drewN n) (md:=md) (Q':=Q) (g:=l.length-n) (λlisted a' w1 hw1 hL=>by
   obtain⟨J,N⟩:=hL;rw[J];have o:=N w1 hw1;rw[show l.length-n=(l.length-(n+1))+1 by omega];have G:Region.ready md l.toArray (Az l.toArray.size n)=[n]:=by simpa using T
   refine⟨λh0=>(by rw[G]at h0;cases h0),λi hi=>?_⟩;rw[G]at hi;have I:i=n:=by simpa using hi
   subst I;have E:l.toArray[i]?=some l[i]:=by simp[F]
   have B:(l.drop i).take 1=[l[i]]:=by rw[List.drop_eq_getElem_cons F,List.take_succ_cons,List.take_zero]
   rw[B]at o;unfold wpOp;simp only[E];rw[List.size_toArray,DR _ _ F];have K:∀a2 w2,Bo P l Q ns (i+1) a2 w2→wpAny P md l.toArray Q (l.length-(i+1)) (Az l.length (i+1)) a2 w2:=λa2 w2 h2 =>
    C8 hsel hb ns (i+1) a2 w2 M F h2 w2 ⟨0,rfl⟩
   unfold wpList at o;split
   ·rename_i hwant;rw[if_pos hwant]at o;refine o.imp (λD=>?_) (λD=>⟨D.1,?_⟩)
    ·have O:=Oper.wp_mono (Q:=Exit.then (Bo P l Q ns (i+1)) Q) (K':=wpAny P md l.toArray Q (l.length-(i+1)) (Az l.length (i+1))) (λa w h=>K a w h) D;unfold Oper.wp at *
     generalize (execOp a'.eval l[i]).run P w1=r at *
     cases r with
     | ok nx w2 =>
      cases nx with
      | enter f args =>
       exact Calls.mono O λe w3 h3=>by cases e<;>first|exact h3|(obtain⟨a4,S,L⟩:=h3;exact⟨a4,S,L⟩)
      | _=>exact O
     | halt x w2=>cases x<;>exact O
    ·obtain⟨a4,S,L⟩:=D.2;exact⟨a4,S,L⟩
   ·rename_i hwant;rw[if_neg hwant]at o;exact K _ _ o) _ _ _ _ hw' H
  rw[show n-k+(l.length-n)=l.length-k by omega]at this;exact this
theorem Ai {id:Nat} {Q:Exit→Act→World→Prop} {a:Act} {w:World} {l:List Oper} (ns:List Nat) (hm:P.follows .mixedOrders=true) (hB:Kl .any l.toArray ns=true)
  (h:Bo P l Q ns 0 a w):(Code.region id l.toArray true).wp P Q a w:=by
 simp only[Kl,ZA]at hB;obtain⟨⟨o,A⟩,hB⟩:=hB;refine wp_region_any hm ?_;rw[Gv];have:=C8 (P:=P) (md:=.any) (Q:=Q) o A ns 0 a w hB (Nat.zero_le _) h { w with drawn:=w.drawn+1 } ⟨1,rfl⟩
 simpa using this
end
end Go.Proofs.YtjldahcckmmenaaGreatDoor
