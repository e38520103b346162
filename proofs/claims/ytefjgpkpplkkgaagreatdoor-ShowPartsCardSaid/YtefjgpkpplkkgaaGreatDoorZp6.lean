/-
  A region that draws its order: quiet operations, then one that may do anything, then quiet ones again, and so on: walked once, in the text's order. After the kit's StillTail and Deep.Quiet, whose proofs are turned here: the class of worlds is 'w after some draws', and it begins anew behind each operation that may write. A region that draws its order, whose operations read what was there, and whose calls only lay new blocks: walked once, in the text's order. (The kit's Deep.Quiet at the class of the later worlds.) What the world holds while the lexer runs: the library's tables; the scanner's block. The lexer's small functions, walked: letter, digit, a name's byte, peek, rune, hex. The lexer's 'while', walked, at its two functions. The lexer's 'gap', walked. The lexer's 'number', walked. The lexer's 'hex', walked.
-/
import Derived.StillTail
import Derived.Deep.QuietTactic
import Derived.BigQuiet
import Derived.Test.YtefjgpkpplkkgaaGreatDoorZp4
import Derived.Test.YtefjgpkpplkkgaaGreatDoorZp1
import Derived.Test.YtefjgpkpplkkgaaGreatDoorZp5
import Derived.Outline
import Derived.Deep.LoopGhost
import Derived.Deep.DeepCutAuto
open Bool renaming and_eq_true → ZD
open Go.Lib renaming hid → QA
open List renaming length_cons → QO, all_eq_true → ZN
open Nat renaming le_refl → QM, lt_or_ge → ZX
namespace Go.Proofs.YtefjgpkpplkkgaaGreatDoor
set_option linter.unusedSimpArgs false
set_option linter.unusedVariables false
open Go Go.RowKit
section
variable {P : Program} {ops : Array Oper} {md : Region.Mode} {C : World → Prop}
structure UpTo (ops:Array Oper) (k:Nat) (listed:Array Bool):Prop where
 size:listed.size=ops.size
 yes:∀ j,j<k→j<ops.size→listed.getD j false=true
 no:∀ j,k≤j→j<ops.size→listed.getD j true=false
theorem UpTo.set {k:Nat} {listed:Array Bool} (h:UpTo ops k listed) (hk:k<ops.size):UpTo ops (k+1) (listed.setIfInBounds k true) :=
 ⟨by simp[h.size],fun j hj hj'=>by
  by_cases e:k=j
  ·subst e;simp[h.size,hk]
  ·rw[getD_set_ne false e];exact h.yes j (by omega) hj',fun j hj hj'=>by rw[getD_set_ne true (by omega)];exact h.no j (by omega) hj'⟩
def sinkB (md:Region.Mode) (ops:Array Oper) (k n:Nat):Bool :=
 ((List.range n).all fun i=>decide (i<k)||(List.range (n+1)).any fun j=>decide (i<j)&&Region.waitsFor md ops j i) &&
 ((List.range ops.size).all fun t=>decide (t≤n)||(List.range t).any fun j=>decide (n≤j)&&Region.waitsFor md ops t j)
structure Seg (md:Region.Mode) (ops:Array Oper) (k n:Nat) (listed:Array Bool):Prop where
 size:listed.size=ops.size
 below:∀ j,j<k→j<ops.size→listed.getD j false=true
 closed:∀ j oj,ops[j]?=some oj→listed.getD j false=true→∀ e∈oj.after,Region.binds md e=true→listed.getD e.on false=true
 tail:∀ t,n≤t→t<ops.size→listed.getD t true=false
theorem Seg.set {k n i:Nat} {listed:Array Bool} (inv:Seg md ops k n listed) (hi:i∈Region.ready md ops listed) (hin:i<n):Seg md ops k n (listed.setIfInBounds i true):=by
 obtain ⟨_,B,A,o⟩:=mem_ready.1 hi
 refine ⟨by simp[inv.size],fun j hj hj'=>getD_set_true (inv.below j hj hj'),fun j oj hj hl e he hb=>?_,fun t ht ht'=>by rw[getD_set_ne true (by omega)];exact inv.tail t ht ht'⟩
 by_cases hij:i=j
 ·subst hij
  have:oj=B:=Option.some.inj (hj.symm.trans A)
  subst this
  exact getD_set_true (o e he hb)
 ·rw[getD_set_ne false hij] at hl
  exact getD_set_true (inv.closed j oj hj hl e he hb)
theorem seg_waits {k n:Nat} {listed:Array Bool} (hs:sinkB md ops k n=true) (hn:n<ops.size) (inv:Seg md ops k n listed) :
  ∀ (d i:Nat),n-i=d→i<n→listed.getD i true=false→∀ t,n≤t→t ∉ Region.ready md ops listed:=by
 simp only[sinkB,ZD] at hs
 intro d
 induction d using Nat.strongRecOn with
 | _ d ih =>
  intro i hd hi hun t ht hr
  obtain ⟨_,P,E,D⟩:=mem_ready.1 hr
  have G:t<ops.size:=(Array.getElem?_eq_some_iff.1 E).1
  by_cases htn:t=n
  ·subst htn
   have o:=ZN.1 hs.1 i (List.mem_range.2 hi)
   simp only[Bool.or_eq_true,decide_eq_true_eq] at o
   rcases o with o|o
   ·have:=inv.below i o (by omega)
    rw[getD_both hun] at this
    cases this
   ·obtain ⟨j,M,A⟩:=List.any_eq_true.1 o
    simp only[ZD,decide_eq_true_eq] at A
    obtain ⟨N,F,e,I,J,B⟩:=Region.waitsFor_spec A.2
    have O:j≤t:=by have:=List.mem_range.1 M;omega
    by_cases H:j=t
    ·subst H
     have:N=P:=Option.some.inj (F.symm.trans E)
     subst this
     have C:=D e I J
     rw[B,getD_both hun] at C
     cases C
    ·cases hl:listed.getD j false with
     | true =>
      have C:=inv.closed j N F hl e I J
      rw[B,getD_both hun] at C
      cases C
     | false =>
      have L:j<listed.size:=by rw[inv.size];omega
      exact ih (t-j) (by omega) j rfl (by omega) (getD_in L hl) t (QM _) hr
  ·have o:=ZN.1 hs.2 t (List.mem_range.2 G)
   simp only[Bool.or_eq_true,decide_eq_true_eq] at o
   rcases o with o|o
   ·omega
   ·obtain ⟨j,M,A⟩:=List.any_eq_true.1 o
    simp only[ZD,decide_eq_true_eq] at A
    obtain ⟨Q,K,e,I,J,B⟩:=Region.waitsFor_spec A.2
    have:Q=P:=Option.some.inj (K.symm.trans E)
    subst this
    have C:=D e I J
    have H:=List.mem_range.1 M
    rw[B,getD_both (inv.tail j (by omega) (by omega))] at C
    cases C
def wpAnyM (P:Program) (md:Region.Mode) (ops:Array Oper) (C:World→Prop) (n:Nat) (L:Array Bool→Act→Prop):Nat→Array Bool→Act→Prop
 | 0,listed,a=>L listed a
 | f+1,listed,a =>
  Region.ready md ops listed≠[]∧∀ i∈Region.ready md ops listed,i<n∧qOp P ops C i (wpAnyM P md ops C n L f (listed.setIfInBounds i true)) a
theorem wpAny_of_M {n g:Nat} {L:Array Bool→Act→Prop} {Q':Exit→Act→World→Prop} (hL:∀ listed a w,C w→L listed a→wpAny P md ops Q' g listed a w) :
  ∀ (f:Nat) (listed:Array Bool) (a:Act) (w:World),C w→wpAnyM P md ops C n L f listed a→wpAny P md ops Q' (f+g) listed a w
 | 0,listed,a,w,hw,h=>by rw[Nat.zero_add];exact hL _ _ _ hw h
 | f+1,listed,a,w,hw,h=>by
  rw[show f+1+g=(f+g)+1 by omega]
  exact ⟨fun h0=>absurd h0 h.1,fun i hi=>wpOp_of_qOp hw (fun a' w' hw' h'=>wpAny_of_M hL f _ a' w' hw' h') (h.2 i hi).2⟩
theorem wpAnyM_first {k n i:Nat} {oi:Oper} {v:Value} {L:Array Bool→Act→Prop} (hi:ops[i]?=some oi) (hsel:∀ (j:Nat) (o:Oper) cs b,ops[j]?=some o→o.op≠.select cs b)
  (hs:sinkB md ops k n=true) (hn:n<ops.size) (hin:i<n)
  (hdone:∀ listed a,L listed a→∀ j∈Region.ready md ops listed,n≤j) :
  ∀ (f:Nat) (listed:Array Bool) (a:Act),Seg md ops k n listed →
   (∀ j oj,ops[j]?=some oj→j≠i→listed.getD j true=false→(∀ e∈oj.after,Region.binds md e=true→e.on≠i)→oi.apart ops oj=true) →
   i∈Region.ready md ops listed→YieldsIn P ops C oi v a →
   wpAnyM P md ops C n L f (listed.setIfInBounds i true) (a.put oi.dst v)→wpAnyM P md ops C n L (f+1) listed a:=by
 intro f
 induction f with
 | zero =>
  intro listed a inv _ hr hy H
  have A:=(mem_ready.1 hr).1
  refine ⟨fun h=>(by rw[h] at hr;cases hr),fun j hj=>?_⟩
  have B:j<n:=by
   rcases ZX j n with h|h
   ·exact h
   ·exact absurd hj (seg_waits hs hn inv _ i rfl hin A j h)
  refine ⟨B,?_⟩
  by_cases hji:j=i
  ·subst hji;exact hy.qOp hi H
  ·have:=hdone _ _ H j (ready_mono hj hji)
   omega
 | succ f ih =>
  intro listed a inv hfree hr hy H
  have A:=(mem_ready.1 hr).1
  refine ⟨fun h=>(by rw[h] at hr;cases hr),fun j hj=>?_⟩
  have B:j<n:=by
   rcases ZX j n with h|h
   ·exact h
   ·exact absurd hj (seg_waits hs hn inv _ i rfl hin A j h)
  refine ⟨B,?_⟩
  by_cases hji:j=i
  ·subst hji;exact hy.qOp hi H
  ·have J:=(H.2 j (ready_mono hj hji)).2
   obtain ⟨E,oj,F,G⟩:=mem_ready.1 hj
   have I:∀ e∈oj.after,Region.binds md e=true→e.on≠i:=fun e he hb heq=>by
    have J:=G e he hb
    rw[heq,getD_both A] at J
    cases J
   have K:=qOp_put F (hfree j oj F hji E I) (fun cs b=>hsel i oi cs b hi) (fun cs b=>hsel j oj cs b F) hy J
   have D:∀ k ok,ops[k]?=some ok→k≠i→(listed.setIfInBounds j true).getD k true=false →
     (∀ e∈ok.after,Region.binds md e=true→e.on≠i)→oi.apart ops ok=true:=fun k ok hk hki A hno=>by
    refine hfree k ok hk hki ?_ hno
    by_cases hjk:j=k
    ·subst hjk;exact E
    ·rw[getD_set_ne true hjk] at A;exact A
   refine qOp_mono (fun a' h3=>ih (listed.setIfInBounds j true) a' (inv.set hj B) D (ready_mono hr (Ne.symm hji)) h3.1 ?_) K
   rw[Array.setIfInBounds_comm _ _ hji]
   exact h3.2
def segB (md:Region.Mode) (ops:Array Oper):Nat→Nat→Array Bool→Bool
 | 0,_,_=>true
 | f+1,k,listed=>(Region.ready md ops listed).contains k&&Region.free md ops listed k&&segB md ops f (k+1) (listed.setIfInBounds k true)
def listN (m k:Nat):Array Bool:=(Array.range m).map fun j=>decide (j<k)
theorem listN_size (m k:Nat):(listN m k).size=m:=by simp[listN]
theorem listN_get (m k j:Nat) (h:j<m) (d:Bool):(listN m k).getD j d=decide (j<k):=by simp[listN,h]
theorem listN_set (m k:Nat) (_h:k<m):(listN m k).setIfInBounds k true=listN m (k+1):=by
 apply Array.ext
 ·simp[listN]
 ·intro i h1 h2
  have hi:i<m:=by simpa [listN] using h2
  have o:i<(listN m k).size:=by rw[listN_size];exact hi
  rw[Array.getElem_setIfInBounds o]
  simp only[listN,Array.getElem_map,Array.getElem_range]
  split<;>simp<;>omega
theorem listN_zero (m:Nat):Array.replicate m false=listN m 0:=by
 apply Array.ext<;>simp[listN]
def backB (md:Region.Mode) (ops:Array Oper):Bool:=(List.range ops.size).all fun j=>match ops[j]? with
 | some oj=>oj.after.all fun e=>!Region.binds md e||decide (e.on<j)
 | none=>true
theorem seg_start {k n:Nat} (hb:backB md ops=true) (hkn:k≤n):Seg md ops k n (listN ops.size k):=by
 refine ⟨listN_size _ _,fun j hj hj'=>by rw[listN_get _ _ _ hj'];simpa using hj,fun j oj hj hl e he hbd=>?_,fun t ht ht'=>by rw[listN_get _ _ _ ht'];simp;omega⟩
 have o:j<ops.size:=(Array.getElem?_eq_some_iff.1 hj).1
 rw[listN_get _ _ _ o] at hl
 have A:=ZN.1 hb j (List.mem_range.2 o)
 simp only[hj] at A
 have B:=Array.all_eq_true_iff_forall_mem.1 A e he
 simp only[Bool.or_eq_true,Bool.not_eq_true',decide_eq_true_eq,hbd,Bool.true_eq_false,false_or] at B
 have:j<k:=by simpa using hl
 rw[listN_get _ _ _ (by omega)]
 simp;omega
theorem wpAnyM_lex {k0 n:Nat} {Lq:Act→Prop} (hsel:Region.noSelect ops=true) (hs:sinkB md ops k0 n=true) (hn:n<ops.size) (hdone:∀ j∈Region.ready md ops (listN ops.size n),n≤j) :
  ∀ (l:List Oper) (k:Nat) (a:Act),(∀ j,j<l.length→l[j]?=ops[k+j]?)→k+l.length=n→Seg md ops k0 n (listN ops.size k) →
  segB md ops l.length k (listN ops.size k)=true→wpQuiet P ops C Lq l a →
  wpAnyM P md ops C n (fun listed' a'=>listed'=listN ops.size n∧Lq a') l.length (listN ops.size k) a
 | [],k,a,_,hk,_,_,h=>by
  have:k=n:=by simpa using hk
  subst this
  exact ⟨rfl,h⟩
 | o::l,k,a,hl,hk,inv,hB,h=>by
  have F:ops[k]?=some o:=by simpa using (hl 0 (by simp)).symm
  simp only[QO,segB,ZD] at hB
  obtain ⟨⟨H,K⟩,D⟩:=hB
  have B:k<n:=by simp only[QO] at hk;omega
  have E:k∈Region.ready md ops (listN ops.size k):=by simpa using H
  have G:qOp P ops C k (wpQuiet P ops C Lq l) a:=by unfold qOp;simp only[F];exact h
  obtain ⟨v,J,I⟩:=yieldsIn_of_qOp F G
  have A:=inv.set E B
  rw[listN_set _ _ (by omega)] at A D
  refine wpAnyM_first F (Region.noSelect_spec hsel) hs hn B (fun listed' a' hL=>by rw[hL.1];exact hdone) l.length (listN ops.size k) a inv (Region.free_spec F K) E J ?_
  rw[listN_set _ _ (by omega)]
  exact wpAnyM_lex hsel hs hn hdone l (k+1) _ (fun j hj=>by have:=hl (j+1) (by simp;omega);simpa [Nat.add_assoc,Nat.add_comm 1 j] using this) (by simp only[QO] at hk;omega) A D I
def wpMix (P:Program) (l:List Oper) (Q:Exit→Act→World→Prop):List Nat→Nat→Act→World→Prop
 | [],k,a,w=>wpQuiet P l.toArray (fun w'=>∃ n,w'=w.drewN n) (fun a'=>∀ w',(∃ n,w'=w.drewN n)→Q .normal a' w') (l.drop k) a
 | n::ns,k,a,w=>wpQuiet P l.toArray (fun w'=>∃ n,w'=w.drewN n) (fun a'=>∀ w',(∃ n,w'=w.drewN n) →
   wpList P l.toArray (Exit.then (wpMix P l Q ns (n+1)) Q) ((l.drop n).take 1) a' w') ((l.drop k).take (n-k)) a
def mixB (md:Region.Mode) (ops:Array Oper):List Nat→Nat→Bool
 | [],k=>Region.lexFrom md ops (ops.size-k) k (listN ops.size k)
 | n::ns,k=>decide (k≤n)&&decide (n<ops.size)&&sinkB md ops k n&&segB md ops (n-k) k (listN ops.size k)&&decide (Region.ready md ops (listN ops.size n)=[n])&&mixB md ops ns (n+1)
def cutsB (md:Region.Mode) (ops:Array Oper) (ns:List Nat):Bool:=Region.noSelect ops&&backB md ops&&mixB md ops ns 0
theorem wpAny_of_mix {l:List Oper} {Q:Exit→Act→World→Prop} (hsel:Region.noSelect l.toArray=true) (hb:backB md l.toArray=true) :
  ∀ (ns:List Nat) (k:Nat) (a:Act) (w:World),mixB md l.toArray ns k=true→k≤l.length→wpMix P l Q ns k a w→∀ w',(∃ n,w'=w.drewN n) →
   wpAny P md l.toArray Q (l.length-k) (listN l.length k) a w'
 | [],k,a,w,hB,hk,h,w',hw'=>by
  refine wpAny_of_quiet (C:=fun w'=>∃ n,w'=w.drewN n) (Q:=fun a'=>∀ w',(∃ n,w'=w.drewN n)→Q .normal a' w') (fun _ w' hw' h=>h w' hw') _ _ _ _ hw' ?_
  have U:(l.drop k).length=l.length-k:=by simp
  have:=wpAnyQ_lex (P:=P) (C:=fun w'=>∃ n,w'=w.drewN n) (md:=md) (Q:=fun a'=>∀ w',(∃ n,w'=w.drewN n)→Q .normal a' w') hsel (l.drop k) k (listN l.length k) a (fun j=>by simp[List.getElem?_drop]) (by
   rw[U];simpa [mixB] using hB) h
  rwa [U] at this
 | n::ns,k,a,w,hB,hk,h,w',hw'=>by
  simp only[mixB,ZD,decide_eq_true_eq,List.size_toArray] at hB
  obtain ⟨⟨⟨⟨⟨L,F⟩,D⟩,W⟩,V⟩,M⟩:=hB
  have A:((l.drop k).take (n-k)).length=n-k:=by simp;omega
  have H:=wpAnyM_lex (P:=P) (C:=fun w'=>∃ n,w'=w.drewN n) (md:=md) hsel D (by simpa using F) (by
    intro j hj;rw[List.size_toArray,V] at hj;simp at hj;omega) ((l.drop k).take (n-k)) k a (fun j hj=>by
    rw[A] at hj;simp[List.getElem?_drop,hj]) (by rw[A];omega)
   (by exact seg_start hb L) (by rw[A];simpa using W) h
  rw[A] at H
  have:=wpAny_of_M (P:=P) (C:=fun w'=>∃ n,w'=w.drewN n) (md:=md) (Q':=Q) (g:=l.length-n) (fun listed a' w1 hw1 hL=>by
   obtain ⟨N,R⟩:=hL
   rw[N]
   have o:=R w1 hw1
   rw[show l.length-n=(l.length-(n+1))+1 by omega]
   have E:Region.ready md l.toArray (listN l.toArray.size n)=[n]:=by simpa using V
   refine ⟨fun h0=>(by rw[E] at h0;cases h0),fun i hi=>?_⟩
   rw[E] at hi
   have T:i=n:=by simpa using hi
   subst T
   have G:l.toArray[i]?=some l[i]:=by simp[F]
   have B:(l.drop i).take 1=[l[i]]:=by rw[List.drop_eq_getElem_cons F,List.take_succ_cons,List.take_zero]
   rw[B] at o
   unfold wpOp
   simp only[G]
   rw[List.size_toArray,listN_set _ _ F]
   have K:∀ a2 w2,wpMix P l Q ns (i+1) a2 w2→wpAny P md l.toArray Q (l.length-(i+1)) (listN l.length (i+1)) a2 w2:=fun a2 w2 h2 =>
    wpAny_of_mix hsel hb ns (i+1) a2 w2 M F h2 w2 ⟨0,rfl⟩
   unfold wpList at o
   split
   ·rename_i hwant
    rw[if_pos hwant] at o
    refine o.imp (fun D=>?_) (fun D=>⟨D.1,?_⟩)
    ·have O:=Oper.wp_mono (Q:=Exit.then (wpMix P l Q ns (i+1)) Q) (K':=wpAny P md l.toArray Q (l.length-(i+1)) (listN l.length (i+1))) (fun a w h=>K a w h) D
     unfold Oper.wp at *
     generalize (execOp a'.eval l[i]).run P w1=r at *
     cases r with
     | ok nx w2 =>
      cases nx with
      | enter f args =>
       exact Calls.mono O fun e w3 h3=>by cases e<;>first|exact h3|(obtain ⟨J,I,S⟩:=h3;exact ⟨J,I,S⟩)
      | _=>exact O
     | halt x w2=>cases x<;>exact O
    ·obtain ⟨J,I,S⟩:=D.2
     exact ⟨J,I,S⟩
   ·rename_i hwant
    rw[if_neg hwant] at o
    exact K _ _ o) _ _ _ _ hw' H
  rw[show n-k+(l.length-n)=l.length-k by omega] at this
  exact this
theorem wp_region_cuts {id:Nat} {Q:Exit→Act→World→Prop} {a:Act} {w:World} {l:List Oper} (ns:List Nat) (hm:P.follows .mixedOrders=true) (hB:cutsB .any l.toArray ns=true)
  (h:wpMix P l Q ns 0 a w):(Code.region id l.toArray true).wp P Q a w:=by
 simp only[cutsB,ZD] at hB
 obtain ⟨⟨o,A⟩,hB⟩:=hB
 refine wp_region_any hm ?_
 rw[listN_zero]
 have:=wpAny_of_mix (P:=P) (md:=.any) (Q:=Q) o A ns 0 a w hB (Nat.zero_le _) h { w with drawn:=w.drawn+1 } ⟨1,rfl⟩
 simpa using this
end
def Later (w:World):Type:={ w':World // Below w.heap.size w w' }
instance Later.nonempty (w : World) : Nonempty (Later w) := ⟨⟨w, Below.refl _ _⟩⟩
def Later.here (w:World):Later w:=⟨w,Below.refl _ _⟩
theorem Later.cell {w:World} {p:Addr} {v:Value} (h:w.cell? p=some v) (x:Later w):x.1.cell? p=some v:=by
 have o:p.block<w.heap.size:=by
  unfold World.cell? at h
  rcases ZX p.block w.heap.size with h'|h'
  ·exact h'
  ·simp[Array.getElem?_eq_none h'] at h
 rw[x.2.cell o];exact h
theorem Later.call {P:Program} {f:FuncId} {args:Array Value} {w:World} {x:Later w} {v:Value}
  (h:Calls P f args x.1 fun e w'=>e=.returned v∧Below x.1.heap.size x.1 w'):Calls P f args x.1 fun e w''=>e=.returned v∧∃ y:Later w,w''=y.1 :=
 h.mono fun _ _ ⟨he,hb⟩=>⟨he,⟨_,x.2.trans (hb.mono x.2.size)⟩,rfl⟩
theorem wp_region_later {P:Program} {id:Nat} {Q:Exit→Act→World→Prop} {a:Act} {w:World} {l:List Oper} (hm:P.follows .mixedOrders=true) (hB:Region.lexB .any l.toArray=true)
  (h:wpQuiet P l.toArray (fun w'=>∃ x:Later w,w'=x.1) (fun a'=>∀ w',(∃ x:Later w,w'=x.1)→Q .normal a' w') l a):(Code.region id l.toArray true).wp P Q a w :=
 wp_region_quiet (C:=fun w'=>∃ x:Later w,w'=x.1) hm hB ⟨⟨{ w with drawn:=w.drawn+1 },⟨rfl,rfl,rfl,QM _,fun _ _=>rfl⟩⟩,rfl⟩ (by simpa using h)
def Env (w:World):Prop :=
 Lib.Utf8Tabs 0 1 w∧∃ m,w.cell? ⟨2,0,none⟩=some (.int .i64 m)
theorem cell_lt {w:World} {a:Addr} {v:Value} (h:w.cell? a=some v):a.block<w.heap.size:=by
 unfold World.cell? at h
 rcases ZX a.block w.heap.size with h'|h'
 ·exact h'
 ·simp[Array.getElem?_eq_none h'] at h
theorem Env.but {X:Nat→Prop} {w w':World} (h:Env w) (hb:But X w w') (hx:∀ k,X k→3≤k):Env w':=by
 obtain ⟨⟨A,o⟩,m,B⟩:=h
 refine ⟨⟨fun c hc=>?_,fun i hi=>⟨?_,?_⟩⟩,m,?_⟩
 ·rw[hb.cell (cell_lt (A c hc)) (fun x=>by have:=hx _ x;simp at this)];exact A c hc
 ·rw[hb.cell (cell_lt (o i hi).1) (fun x=>by have:=hx _ x;simp at this)];exact (o i hi).1
 ·rw[hb.cell (cell_lt (o i hi).2) (fun x=>by have:=hx _ x;simp at this)];exact (o i hi).2
 ·rw[hb.cell (cell_lt B) (fun x=>by have:=hx _ x;simp at this)];exact B
theorem Env.below {w w':World} (h:Env w) (hb:Below w.heap.size w w'):Env w':=h.but (X:=fun _=>False) (But.of_below hb) (fun _ f=>f.elim)
theorem Env.drewN {w:World} (h:Env w) (n:Nat):Env (w.drewN n):=h.but (X:=fun _=>False) ((But.refl _ w).drewN n) (fun _ f=>f.elim)
def Scan (w:World) (bx:Nat) (s:ByteArray) (a:Nat):Prop:=w.heap[bx]?=some (.cells #[.string s,.int .i64 a] 214 (0,0))
theorem Scan.c0 {w:World} {bx:Nat} {s:ByteArray} {a:Nat} (h:Scan w bx s a):w.cell? ⟨bx,0,none⟩=some (.string s):=by
 unfold Scan at h;simp[World.cell?,h]
theorem Scan.c1 {w:World} {bx:Nat} {s:ByteArray} {a:Nat} (h:Scan w bx s a):w.cell? ⟨bx,1,none⟩=some (.int .i64 a):=by
 unfold Scan at h;simp[World.cell?,h]
theorem Scan.f1 {w:World} {bx:Nat} {s:ByteArray} {a:Nat} (h:Scan w bx s a):w.frozen? ⟨bx,1,none⟩=false:=by
 unfold Scan at h;simp[World.frozen?,h]
theorem Scan.lt {w:World} {bx:Nat} {s:ByteArray} {a:Nat} (h:Scan w bx s a):bx<w.heap.size:=cell_lt h.c0
theorem Scan.put {w:World} {bx:Nat} {s:ByteArray} {a:Nat} (h:Scan w bx s a) (b:Nat):Scan (w.setCell ⟨bx,1,none⟩ (.int .i64 b)) bx s b:=by
 unfold Scan at *;simp[World.setCell,Array.getElem?_modify,h]
theorem Scan.drewN {w:World} {bx:Nat} {s:ByteArray} {a:Nat} (h:Scan w bx s a) (n:Nat):Scan (w.drewN n) bx s a:=h
theorem Scan.drew {w:World} {bx:Nat} {s:ByteArray} {a:Nat} (h:Scan w bx s a):Scan w.drew bx s a:=h
theorem Scan.but {X:Nat→Prop} {w w':World} {bx:Nat} {s:ByteArray} {a:Nat} (h:Scan w bx s a) (hb:But X w w') (hx:¬ X bx):Scan w' bx s a:=by
 unfold Scan at *;rw[hb.block bx (Scan.lt h) hx];exact h
theorem Scan.below {w w':World} {bx:Nat} {s:ByteArray} {a:Nat} (h:Scan w bx s a) (hb:Below w.heap.size w w'):Scan w' bx s a:=by
 have o:=h;unfold Scan at *;rw[hb.block bx (Scan.lt o)];exact h
abbrev Fr (bx:Nat) (w w':World):Prop:=But (fun k=>k=bx) w w'
theorem Fr.set {bx:Nat} {w w':World} (h:Fr bx w w') (o:Nat) (v:Value):Fr bx w (w'.setCell ⟨bx,o,none⟩ v):=But.setCell h (.inl rfl) v
theorem Env.fr {w w':World} {bx:Nat} (h:Env w) (hb:Fr bx w w') (h3:3≤bx):Env w':=h.but hb (fun k hk=>by rw[hk];exact h3)
def orLet (n:Nat):Bool:=(bits BinOp.or IntKind.u8 (n:Int) 32:Int)==(((UInt8.ofNat n) ||| 32).toNat:Int)
theorem or32 (c:UInt8):bits BinOp.or IntKind.u8 (c.toNat:Int) 32=((c ||| 32).toNat:Int):=by
 have h:∀ n:Fin 256,orLet n.val=true:=by decide +kernel
 have:=h ⟨c.toNat,UInt8.toNat_lt c⟩
 simpa [orLet] using this
set_option maxHeartbeats 400000 in
theorem letter_any (c:UInt8) (w:World) :
  Calls Tryz.prog 158 #[.int .u8 c.toNat] w fun e w'=>e=.returned (.bool (Lx.isLetter c))∧w'=w:=by
 have o:=QA (or32 c)
 go_enter Tryz.func158,Tryz.ntmps158
 go_wp2
 all_goals go_ret
 all_goals refine ⟨ret_bool ?_,rfl⟩
 all_goals rw[Bool.eq_iff_iff]
 all_goals simp only[beq_iff_eq,Lx.isLetter,Bool.or_eq_true,ZD,decide_eq_true_eq,Bool.false_eq_true,false_iff,true_iff,iff_true,iff_false]
 all_goals (try simp only[o.out] at *)
 all_goals omega
set_option maxHeartbeats 400000 in
theorem digit_any (c:UInt8) (w:World) :
  Calls Tryz.prog 159 #[.int .u8 c.toNat] w fun e w'=>e=.returned (.bool (Lx.isDigit c))∧w'=w:=by
 go_enter Tryz.func159,Tryz.ntmps159
 go_wp2
 all_goals go_ret
 all_goals refine ⟨ret_bool ?_,rfl⟩
 all_goals rw[Bool.eq_iff_iff]
 all_goals simp only[Lx.isDigit,ZD,decide_eq_true_eq,Bool.false_eq_true,false_iff,true_iff]
 all_goals omega
abbrev isWord:=Lx.isWord
set_option maxHeartbeats 400000 in
theorem word_any (c:UInt8) (w:World) :
  Calls Tryz.prog 205 #[.int .u8 c.toNat] w fun e w'=>e=.returned (.bool (isWord c))∧w'=w:=by
 go_enter Tryz.func205,Tryz.ntmps205
 go_wp2_with (first|(go_at_call 158;refine (letter_any _ _).mono ?_;rintro e w' ⟨rfl,rfl⟩)|(go_at_call 159;refine (digit_any _ _).mono ?_;rintro e w' ⟨rfl,rfl⟩))
 all_goals go_ret
 all_goals refine ⟨ret_bool ?_,rfl⟩
 all_goals simp_all [Lx.isWord]
set_option maxHeartbeats 400000 in
theorem peek_any (bx:Nat) (s:ByteArray) (a k:Nat) (w:World) (hs:s.size≤4096) (hat:a≤s.size) (hk:k≤10) (h:Scan w bx s a) :
  Calls Tryz.prog 203 #[.pointer (some ⟨bx,0,none⟩),.int .i64 k] w fun e w'=>e=.returned (.int .u8 (bt s (a+k)).toNat)∧∃ n,w'=w.drewN n:=by
 have A:=h.c0;have o:=h.c1;clear h
 by_cases hlt:a+k<s.size
 ·go_enter Tryz.func203,Tryz.ntmps203
  go_wp2
  go_quiet (fail)
  go_wp2
  go_quiet (fail)
  go_wp2
  go_ret
  exact ⟨rfl,_,World.drewN_drewN _ _ _⟩
 ·go_enter Tryz.func203,Tryz.ntmps203
  go_wp2
  go_quiet (fail)
  go_wp2
  go_ret
  exact ⟨ret_int (by rw[bt_end _ _ (by omega)];rfl),_,rfl⟩
theorem peek0_any (bx:Nat) (s:ByteArray) (a:Nat) (w:World) (hs:s.size≤4096) (hat:a≤s.size) (h:Scan w bx s a) :
  Calls Tryz.prog 203 #[.pointer (some ⟨bx,0,none⟩),.int .i64 0] w fun e w'=>e=.returned (.int .u8 (bt s a).toNat)∧∃ n,w'=w.drewN n:=peek_any bx s a 0 w hs hat (by omega) h
theorem peek1_any (bx:Nat) (s:ByteArray) (a:Nat) (w:World) (hs:s.size≤4096) (hat:a≤s.size) (h:Scan w bx s a) :
  Calls Tryz.prog 203 #[.pointer (some ⟨bx,0,none⟩),.int .i64 1] w fun e w'=>e=.returned (.int .u8 (bt s (a+1)).toNat)∧∃ n,w'=w.drewN n:=peek_any bx s a 1 w hs hat (by omega) h
theorem extract_sfx (s:ByteArray) (a:Nat):s.extract a s.size=⟨(sfx s a).toArray⟩:=by
 have h:(s.extract a s.size).data=(sfx s a).toArray:=by
  apply Array.ext'
  simp only[ByteArray.data_extract,Array.toList_extract,sfx,List.extract_eq_take_drop]
  exact List.take_of_length_le (by simp)
 cases h':s.extract a s.size
 simp_all
set_option maxHeartbeats 400000 in
set_option maxRecDepth 100000 in
theorem rune_any (bx:Nat) (s:ByteArray) (a:Nat) (w:World) (hs:s.size≤4096) (hat:a≤s.size) (h:Scan w bx s a) (hE:Env w) :
  Calls Tryz.prog 202 #[.pointer (some ⟨bx,0,none⟩)] w fun e w'=>e=.returned (.tuple #[.int .i32 (Lx.rune (sfx s a)).1,.int .i64 (Lx.rune (sfx s a)).2])∧Below w.heap.size w w':=by
 have C:=Lx.rune_decode (sfx s a)
 have H:=h.c0;have G:=h.c1
 have F:=extract_sfx s a
 have B:Lib.Utf8Tabs 0 1 w:=hE.1
 have D:Hid (∀ n,Lib.Utf8Tabs 0 1 (w.drewN n)):=fun n=>B;have o:=QA C
 clear h hE B C
 go_enter Tryz.func202,Tryz.ntmps202
 go_wp2
 refine wp_region_cuts [9] (by kernel_rfl) (by kernel_rfl) ?_;simp only[wpMix,List.take_succ_cons,List.take_zero,List.drop_succ_cons,List.drop_zero,Nat.sub_zero,Nat.reduceSub,Nat.reduceAdd]
 repeat (go_big_quiet_step (fail))
 refine wpQuiet_nil ?_;rintro _ ⟨nq,rfl⟩
 go_wp2_with fail
 refine (Tryz.utf8_DecodeRuneInString _ _ (D.out nq)).mono ?_
 rintro e w1 ⟨rfl,hb0⟩
 have A:=Below.undrew hb0
 clear hb0
 go_wp2
 repeat (go_big_quiet_step (fail))
 rename_i q0
 refine wpQuiet_nil ?_;rintro _ ⟨nq,rfl⟩
 go_wp2
 all_goals go_ret2
 ·have e:Lx.rune (sfx s a)=(0,0):=by rw[← o.out];unfold Lx.clip;rw[if_pos ⟨by omega,by omega⟩]
  rw[e]
  exact ⟨rfl,Below.drewN A _⟩
 ·have e:Lx.rune (sfx s a)=Lib.decodeGo ⟨(sfx s a).toArray⟩:=by rw[← o.out];unfold Lx.clip;rw[if_neg (by omega)]
  have E:(Lib.decodeGo ⟨(sfx s a).toArray⟩).1=65533:=by omega
  rw[e,E]
  exact ⟨rfl,Below.drewN A _⟩
 ·have e:Lx.rune (sfx s a)=Lib.decodeGo ⟨(sfx s a).toArray⟩:=by rw[← o.out];unfold Lx.clip;rw[if_neg (by omega)]
  rw[e]
  exact ⟨rfl,Below.drewN A _⟩
set_option maxHeartbeats 400000 in
set_option maxRecDepth 100000 in
theorem while_digit (bx:Nat) (s:ByteArray) (a:Nat) (w:World) (hs:s.size≤4096) (hat:a≤s.size) (h:Scan w bx s a) :
  Calls Tryz.prog 204 #[.pointer (some ⟨bx,0,none⟩),.func (.func 159) #[] #[]] w fun e w'=>∃ b,a≤b∧b≤s.size∧sfx s b=(sfx s a).dropWhile Lx.isDigit∧e=.returned (.int .i64 ((b:Int)-a))∧Scan w' bx s b∧Fr bx w w':=by
 have J:=QA h
 have M:=h.c0;have K:=h.c1
 clear h
 go_enter Tryz.func204,Tryz.ntmps204
 go_wp2
 go_loopg [] (s.size-a) (fun k wr=>∃ b,k=s.size-b∧a≤b∧b≤s.size∧(sfx s b).dropWhile Lx.isDigit=(sfx s a).dropWhile Lx.isDigit∧Scan wr bx s b∧Fr bx w wr)
 case atStart=>exact ⟨a,rfl,QM _,hat,rfl,J.out,But.refl _ _⟩
 case round =>
  obtain ⟨b,G,B,F,H,o,E⟩:=hrel
  have c0:=o.c0;have c1:=o.c1;have f1:=o.f1
  have D:=QA H;have I:=QA G
  clear H G M K
  by_cases hlt:b<s.size
  ·have L:(0:Int)≤(b:Int):=Int.natCast_nonneg _
   have C:(b:Int)<s.size:=by omega
   cases hp:Lx.isDigit (bt s b)
   ·have A:=QA hp
    go_wp2
    go_quiet ((refine Calls.quiet_of_same (v:=.bool false) ((digit_any (bt s b) _).mono ?_);rintro e w' ⟨rfl,hw⟩;exact ⟨by rw[A.out],hw⟩))
    go_wp2
    go_ret
    refine ⟨b,B,F,?_,rfl,o.drewN _,E.drewN _⟩
    rw[← D.out,sfx_cons s b hlt,List.dropWhile_cons,A.out]
    simp
   ·have A:=QA hp
    clear hp
    go_wp2
    go_quiet ((refine Calls.quiet_of_same (v:=.bool true) ((digit_any (bt s b) _).mono ?_);rintro e w' ⟨rfl,hw⟩;exact ⟨by rw[A.out],hw⟩))
    go_wp2
    go_roundg (s.size-(b+1))
    case measure=>rw[I.out];omega
    case rel =>
     refine ⟨b+1,rfl,by omega,hlt,?_,(o.drewN _).put (b+1),(E.drewN _).setCell (.inl rfl) _⟩
     rw[← D.out,sfx_cons s b hlt,List.dropWhile_cons,A.out]
     simp
  ·have C:(s.size:Int)≤b:=by omega
   go_wp2
   go_quiet (fail)
   go_wp2
   go_ret
   refine ⟨b,B,F,?_,rfl,o.drewN _,E.drewN _⟩
   rw[← D.out,sfx_end s b (by omega)]
   rfl
set_option maxHeartbeats 400000 in
set_option maxRecDepth 100000 in
theorem while_word (bx:Nat) (s:ByteArray) (a:Nat) (w:World) (hs:s.size≤4096) (hat:a≤s.size) (h:Scan w bx s a) :
  Calls Tryz.prog 204 #[.pointer (some ⟨bx,0,none⟩),.func (.func 205) #[] #[]] w fun e w'=>∃ b,a≤b∧b≤s.size∧sfx s b=(sfx s a).dropWhile isWord∧e=.returned (.int .i64 ((b:Int)-a))∧Scan w' bx s b∧Fr bx w w':=by
 have J:=QA h
 have M:=h.c0;have K:=h.c1
 clear h
 go_enter Tryz.func204,Tryz.ntmps204
 go_wp2
 go_loopg [] (s.size-a) (fun k wr=>∃ b,k=s.size-b∧a≤b∧b≤s.size∧(sfx s b).dropWhile isWord=(sfx s a).dropWhile isWord∧Scan wr bx s b∧Fr bx w wr)
 case atStart=>exact ⟨a,rfl,QM _,hat,rfl,J.out,But.refl _ _⟩
 case round =>
  obtain ⟨b,G,B,F,H,o,E⟩:=hrel
  have c0:=o.c0;have c1:=o.c1;have f1:=o.f1
  have D:=QA H;have I:=QA G
  clear H G M K
  by_cases hlt:b<s.size
  ·have L:(0:Int)≤(b:Int):=Int.natCast_nonneg _
   have C:(b:Int)<s.size:=by omega
   cases hp:isWord (bt s b)
   ·have A:=QA hp
    go_wp2
    go_quiet ((refine Calls.quiet_of_same (v:=.bool false) ((word_any (bt s b) _).mono ?_);rintro e w' ⟨rfl,hw⟩;exact ⟨by rw[A.out],hw⟩))
    go_wp2
    go_ret
    refine ⟨b,B,F,?_,rfl,o.drewN _,E.drewN _⟩
    rw[← D.out,sfx_cons s b hlt,List.dropWhile_cons,A.out]
    simp
   ·have A:=QA hp
    clear hp
    go_wp2
    go_quiet ((refine Calls.quiet_of_same (v:=.bool true) ((word_any (bt s b) _).mono ?_);rintro e w' ⟨rfl,hw⟩;exact ⟨by rw[A.out],hw⟩))
    go_wp2
    go_roundg (s.size-(b+1))
    case measure=>rw[I.out];omega
    case rel =>
     refine ⟨b+1,rfl,by omega,hlt,?_,(o.drewN _).put (b+1),(E.drewN _).setCell (.inl rfl) _⟩
     rw[← D.out,sfx_cons s b hlt,List.dropWhile_cons,A.out]
     simp
  ·have C:(s.size:Int)≤b:=by omega
   go_wp2
   go_quiet (fail)
   go_wp2
   go_ret
   refine ⟨b,B,F,?_,rfl,o.drewN _,E.drewN _⟩
   rw[← D.out,sfx_end s b (by omega)]
   rfl
set_option maxHeartbeats 4000000 in
set_option maxRecDepth 100000 in
theorem gap_any (bx:Nat) (s:ByteArray) (a:Nat) (w:World) (hs:s.size≤4096) (hat:a≤s.size) (h:Scan w bx s a) (hE:Env w) (h3:3≤bx) :
  Calls Tryz.prog 166 #[.pointer (some ⟨bx,0,none⟩)] w fun e w'=>∃ b r,a≤b∧b≤s.size∧Lx.gap (decide (a=0)) (sfx s a)=(sfx s b,r)∧e=.returned (.bool r)∧Scan w' bx s b∧Fr bx w w':=by
 go_enter Tryz.func166,Tryz.ntmps166
 go_wp2
 go_loopg [] (s.size-a) (fun k wr=>∃ b,k=s.size-b∧a≤b∧b≤s.size∧Lx.gap (decide (b=0)) (sfx s b)=Lx.gap (decide (a=0)) (sfx s a)∧Scan wr bx s b∧Fr bx w wr)
 case atStart=>exact ⟨a,rfl,QM _,hat,rfl,h,But.refl _ _⟩
 case round =>
  obtain ⟨b,T,U,hb,M,Q,hF⟩:=hrel
  obtain ⟨wo,rfl⟩:∃ wo:World,wo=wr:=⟨_,rfl⟩
  have ae:=QA hE
  have c0:=Q.c0;have c1:=Q.c1;have f1:=Q.f1
  have O:=QA M;have W:=QA T
  clear M T h hE
  by_cases hlt:b<s.size
  ·have aj:(0:Int)≤(b:Int):=Int.natCast_nonneg _
   have N:(b:Int)<s.size:=by omega
   have L:=QA (sfx_cons s b hlt)
   cases hbl:Lx.isBlank (bt s b)
   ·have E:=hbl
    simp only[Lx.isBlank,Bool.or_eq_false_iff,decide_eq_false_iff_not] at E
    obtain ⟨⟨⟨⟨n1,n2⟩,n3⟩,n4⟩,n5⟩:=E
    have X:=eqF (n:=(bt s b).toNat) (k:=32) (by omega);have e2:=eqF (n:=(bt s b).toNat) (k:=9) (by omega);have e3:=eqF (n:=(bt s b).toNat) (k:=10) (by omega)
    have e4:=eqF (n:=(bt s b).toNat) (k:=13) (by omega);have e5:=eqF (n:=(bt s b).toNat) (k:=44) (by omega)
    have K:=QA hbl
    clear hbl n1 n2 n3 n4 n5
    by_cases hbom:b=0∧Lx.bom (sfx s b)=true
    ·obtain ⟨rfl,J⟩:=hbom
     have Z:3≤s.size:=by
      have h1:=J
      rw[Lx.bom,decide_eq_true_eq] at h1
      have h2:=congrArg List.length h1
      rw[List.length_take,sfx_len] at h2
      simp at h2;omega
     have o:Lib.hasPrefix s.data.toList [239,187,191]=true:=by rw[← Lx.bom_prefix,← sfx_all];exact J
     have aA:wo.cell? ⟨bx,1,none⟩=some (.int .i64 0):=c1
     have ad:=QA J
     have D:=QA o
     clear c1 J o
     go_wp2
     go_quiet (fail)
     go_wp2
     go_quiet (fail)
     go_wp2_with (go_at_call 201;refine (Tryz.strings_HasPrefix _ _ _).mono ?_;rintro e w' ⟨rfl,rfl⟩;rw[D.out])
     go_roundg (s.size-3)
     case measure=>rw[W.out];omega
     case rel =>
      refine ⟨3,rfl,by omega,Z,?_,(Q.drewN _).put 3,by (repeat' (first|(with_reducible assumption)|(with_reducible exact But.refl _ _)|(with_reducible refine But.drewN ?_ _)|(with_reducible refine But.drew ?_)|(with_reducible refine Fr.set ?_ _ _)|(with_reducible refine But.alloc ?_ _)))⟩
      rw[← O.out]
      have hg:=Lx.gap_bom K.out (t:=sfx s 1) (by have:=ad.out;rwa [sfx_cons s 0 hlt] at this)
      have P:sfx s 0=bt s 0::sfx s 1:=L.out
      rw[P]
      refine Eq.trans ?_ hg.symm
      rw[← P,sfx_drop]
      rfl
    ·have C:(((b:Int)==0)=true∧Lib.hasPrefix s.data.toList [239,187,191]=false)∨((b:Int)==0)=false:=by
      by_cases hb0:b=0
      ·refine .inl ⟨eqT (by omega),?_⟩
       rw[← Lx.bom_prefix,← sfx_all]
       subst hb0
       simpa using hbom
      ·exact .inr (eqF (by omega))
     have HP:Hid (¬ (decide (b=0)=true∧Lx.bom (bt s b::sfx s (b+1))=true)):=by
      rw[← L.out]
      intro h
      exact hbom ⟨by simpa using h.1,h.2⟩
     clear hbom
     by_cases h35:(bt s b).toNat=35
     ·have A:=QA h35
      have e6:=eqT (n:=(bt s b).toNat) (k:=35) (by omega)
      clear h35
      rcases C with ⟨P,o⟩|P
      all_goals
       try (have D:=QA o;clear o)
       go_wp2
       go_quiet (fail)
       go_wp2
       go_quiet (fail)
       go_wp2_with (go_at_call 201;refine (Tryz.strings_HasPrefix _ _ _).mono ?_;rintro e w' ⟨rfl,rfl⟩;rw[D.out])
       clear c0 c1 f1 P X e2 e3 e4 e5 e6
       go_loopg [] (s.size-b) (fun k wi=>∃ d,k=s.size-d∧b≤d∧d≤s.size∧Lx.remark (sfx s d)=Lx.remark (sfx s (b+1))∧Scan wi bx s d∧Fr bx w wi)
       case atStart=>exact ⟨b,rfl,QM _,hb,by rw[L.out,Lx.remark_hash A.out],by (repeat' (first|(with_reducible assumption)|(with_reducible refine Scan.drewN ?_ _)|(with_reducible refine Scan.drew ?_))),by (repeat' (first|(with_reducible assumption)|(with_reducible exact But.refl _ _)|(with_reducible refine But.drewN ?_ _)|(with_reducible refine But.drew ?_)|(with_reducible refine Fr.set ?_ _ _)|(with_reducible refine But.alloc ?_ _)))⟩
       case round =>
        obtain ⟨d,T,av,M,hm,G,R⟩:=hrel
        have ac:=ae.out.fr R h3
        have c0:=G.c0;have c1:=G.c1;have f1:=G.f1
        have Y:=QA hm;have ab:=QA T
        clear hm T
        by_cases hdl:d<s.size
        ·have aj:(0:Int)≤(d:Int):=Int.natCast_nonneg _
         have N:(d:Int)<s.size:=by omega
         have B:=QA (sfx_cons s d hdl)
         by_cases hnl:(bt s d).toNat=10∨(bt s d).toNat=13
         ·have ak:b<d:=by
           rcases ZX b d with h'|h'
           ·exact h'
           ·have ag:d=b:=by omega
            rw[ag,A.out] at hnl
            omega
          have F:=QA hnl
          have I:(((bt s d).toNat:Int) != 10)=false∨(((bt s d).toNat:Int) != 10)=true∧(((bt s d).toNat:Int) != 13)=false:=by
           rcases hnl with h'|h'
           ·exact .inl (neF (by omega))
           ·exact .inr ⟨neT (by omega),neF (by omega)⟩
          clear hnl
          rcases I with X|⟨X,e2⟩
          all_goals
           go_wp2
           go_quiet (fail)
           go_wp2
           go_roundg (s.size-d)
           case measure=>rw[W.out];omega
           case rel =>
            refine ⟨d,rfl,by omega,M,?_,by (repeat' (first|(with_reducible assumption)|(with_reducible refine Scan.drewN ?_ _)|(with_reducible refine Scan.drew ?_))),by (repeat' (first|(with_reducible assumption)|(with_reducible exact But.refl _ _)|(with_reducible refine But.drewN ?_ _)|(with_reducible refine But.drew ?_)|(with_reducible refine Fr.set ?_ _ _)|(with_reducible refine But.alloc ?_ _)))⟩
            rw[← O.out,L.out,Lx.gap_rem A.out,← Y.out,B.out,Lx.remark_end F.out,if_pos rfl,decide_eq_false (by omega)]
         ·have X:=neT (n:=(bt s d).toNat) (k:=10) (by omega)
          have e2:=neT (n:=(bt s d).toNat) (k:=13) (by omega)
          have F:=QA hnl
          have aE:=Lx.rune_le4 (sfx s d)
          have V:=Lx.rune_len (sfx s d)
          rw[sfx_len] at V
          clear hnl
          rcases Lx.ctl_cases (Lx.rune (sfx s d)).1 (Lx.rune (sfx s d)).2 with ⟨q1,q4⟩|⟨q1,q2,q3,q4⟩|⟨q1,q2,q3,q4⟩|⟨q1,q2,q4⟩
          all_goals
           have Q4:=QA q4
           clear q4
           go_wp2
           go_quiet (fail)
           go_wp2_with fail
           refine (rune_any bx s d _ hs M (by (repeat' (first|(with_reducible assumption)|(with_reducible refine Scan.drewN ?_ _)|(with_reducible refine Scan.drew ?_)))) (ac.drewN _)).mono ?_
           rintro e w1 ⟨rfl,hb1⟩
           have S:=Below.undrew hb1
           have H:=G.below S
           have aD:Fr bx w w1:=R.trans (But.of_below S)
           clear hb1 c0 c1 f1
           have c0:=H.c0;have c1:=H.c1;have f1:=H.f1
           go_wp2
           first
           | (
             go_ret
             refine ⟨d,false,by omega,M,?_,rfl,by (repeat' (first|(with_reducible assumption)|(with_reducible refine Scan.drewN ?_ _)|(with_reducible refine Scan.drew ?_))),by (repeat' (first|(with_reducible assumption)|(with_reducible exact But.refl _ _)|(with_reducible refine But.drewN ?_ _)|(with_reducible refine But.drew ?_)|(with_reducible refine Fr.set ?_ _ _)|(with_reducible refine But.alloc ?_ _)))⟩
             rw[← O.out,L.out,Lx.gap_rem A.out,← Y.out,B.out,Lx.remark_bad F.out (by rw[← B.out];exact Q4.out)]
             rfl)
           | (
             have q5:(Lx.rune (sfx s d)).2≠0:=fun h=>Q4.out (.inl h)
             go_roundg (s.size-(d+(Lx.rune (sfx s d)).2))
             case measure=>rw[ab.out];omega
             case rel =>
              refine ⟨d+(Lx.rune (sfx s d)).2,rfl,by omega,by omega,?_,H.put _,by (repeat' (first|(with_reducible assumption)|(with_reducible exact But.refl _ _)|(with_reducible refine But.drewN ?_ _)|(with_reducible refine But.drew ?_)|(with_reducible refine Fr.set ?_ _ _)|(with_reducible refine But.alloc ?_ _)))⟩
              rw[← Y.out,← sfx_drop]
              have:=Lx.remark_go F.out (t:=sfx s (d+1)) (by rw[← B.out];exact Q4.out)
              rw[← B.out] at this
              exact this.symm)
        ·have N:(s.size:Int)≤d:=by omega
         go_wp2
         go_quiet (fail)
         go_wp2
         go_roundg (s.size-d)
         case measure=>rw[W.out];omega
         case rel =>
          refine ⟨d,rfl,by omega,M,?_,by (repeat' (first|(with_reducible assumption)|(with_reducible refine Scan.drewN ?_ _)|(with_reducible refine Scan.drew ?_))),by (repeat' (first|(with_reducible assumption)|(with_reducible exact But.refl _ _)|(with_reducible refine But.drewN ?_ _)|(with_reducible refine But.drew ?_)|(with_reducible refine Fr.set ?_ _ _)|(with_reducible refine But.alloc ?_ _)))⟩
          rw[← O.out,L.out,Lx.gap_rem A.out,← Y.out,sfx_end s d (by omega),Lx.remark_nil,if_pos rfl,decide_eq_false (by omega)]
     ·have e6:=eqF (n:=(bt s b).toNat) (k:=35) (by omega)
      have A:=QA h35
      clear h35
      rcases C with ⟨P,o⟩|P
      all_goals
       try (have D:=QA o;clear o)
       go_wp2
       go_quiet (fail)
       go_wp2
       go_quiet (fail)
       go_wp2_with (go_at_call 201;refine (Tryz.strings_HasPrefix _ _ _).mono ?_;rintro e w' ⟨rfl,rfl⟩;rw[D.out])
       go_ret
       refine ⟨b,true,U,hb,?_,rfl,by (repeat' (first|(with_reducible assumption)|(with_reducible refine Scan.drewN ?_ _)|(with_reducible refine Scan.drew ?_))),by (repeat' (first|(with_reducible assumption)|(with_reducible exact But.refl _ _)|(with_reducible refine But.drewN ?_ _)|(with_reducible refine But.drew ?_)|(with_reducible refine Fr.set ?_ _ _)|(with_reducible refine But.alloc ?_ _)))⟩
       rw[← O.out,L.out]
       exact Lx.gap_stop K.out HP.out A.out
   ·have E:=hbl
    simp only[Lx.isBlank,Bool.or_eq_true,decide_eq_true_eq] at E
    have K:=QA hbl
    clear hbl
    rcases E with (((E|E)|E)|E)|E
    all_goals
     go_wp2
     go_quiet (fail)
     go_wp2
     go_quiet (fail)
     go_wp2
     go_roundg (s.size-(b+1))
     case measure=>rw[W.out];omega
     case rel =>
      refine ⟨b+1,rfl,by omega,hlt,?_,(Q.drewN _).put (b+1),by (repeat' (first|(with_reducible assumption)|(with_reducible exact But.refl _ _)|(with_reducible refine But.drewN ?_ _)|(with_reducible refine But.drew ?_)|(with_reducible refine Fr.set ?_ _ _)|(with_reducible refine But.alloc ?_ _)))⟩
      rw[← O.out,L.out,Lx.gap_blank K.out]
      rfl
  ·have N:(s.size:Int)≤b:=by omega
   go_wp2
   go_quiet (fail)
   go_wp2
   go_ret
   refine ⟨b,true,U,hb,?_,rfl,Q.drewN _,hF.drewN _⟩
   rw[← O.out,sfx_end s b (by omega),Lx.gap_nil]
theorem hd_sfx (s:ByteArray) (n:Nat):Lx.hd (sfx s n)=bt s n:=by
 have:=sfx_getD s n 0
 unfold Lx.hd
 cases h:sfx s n with
 | nil=>rw[h] at this;simpa using this
 | cons c t=>rw[h] at this;simpa using this
def NumPost (bx:Nat) (s:ByteArray) (a:Nat) (w:World) (e:Ending) (w':World):Prop :=
 ∃ b,a≤b∧b≤s.size∧Scan w' bx s b∧Fr bx w w' ∧
  ((∃ k:Nat,Lx.number (sfx s a)=some (k,sfx s b)∧(k=2∨k=3)∧e=.returned (.int .i64 k))∨(Lx.number (sfx s a)=none∧e=.returned (.int .i64 0)))
set_option maxHeartbeats 4000000 in
set_option maxRecDepth 100000 in
theorem number_any (bx:Nat) (s:ByteArray) (a:Nat) (w:World) (hs:s.size≤4096) (hat:a≤s.size) (h:Scan w bx s a) :
  Calls Tryz.prog 206 #[.pointer (some ⟨bx,0,none⟩)] w (NumPost bx s a w):=by
 go_enter Tryz.func206,Tryz.ntmps206
 go_wp2_with fail;refine (peek0_any bx s a _ hs (by omega) (by (repeat' (first|(with_reducible assumption)|(with_reducible refine Scan.drewN ?_ _)|(with_reducible refine Scan.drew ?_))))).mono ?_;rintro e w' ⟨rfl,n1,rfl⟩
 go_upto_if 10 with (fail)
 go_cut [] (fun wx=>∃ b,a≤b∧b≤s.size∧sfx s b=(if (Lx.hd (sfx s a)).toNat=45 then (sfx s a).drop 1 else sfx s a)∧Scan wx bx s b∧Fr bx w wx)
 case first =>
  have c0:=h.c0;have c1:=h.c1;have f1:=h.f1
  by_cases h45:(bt s a).toNat=45
  ·have B:=eqT (n:=(bt s a).toNat) (k:=45) (by omega)
   have N:=QA h45
   clear h45
   have I:a<s.size:=by
    rcases ZX a s.size with h'|h'
    ·exact h'
    ·rw[bt_end _ _ h'] at N;exact absurd N.out (by decide)
   go_wp2_with fail
   go_meet
   exact ⟨a+1,by omega,I,by rw[hd_sfx,if_pos N.out,sfx_drop],(h.drewN _).put (a+1),by (repeat' (first|(with_reducible assumption)|(with_reducible exact But.refl _ _)|(with_reducible refine But.drewN ?_ _)|(with_reducible refine But.drew ?_)|(with_reducible refine Fr.set ?_ _ _)|(with_reducible refine But.alloc ?_ _)))⟩
  ·have B:=eqF (n:=(bt s a).toNat) (k:=45) (by omega)
   have N:=QA h45
   clear h45
   go_wp2_with fail
   go_meet
   exact ⟨a,by omega,hat,by rw[hd_sfx,if_neg N.out],by (repeat' (first|(with_reducible assumption)|(with_reducible refine Scan.drewN ?_ _)|(with_reducible refine Scan.drew ?_))),by (repeat' (first|(with_reducible assumption)|(with_reducible exact But.refl _ _)|(with_reducible refine But.drewN ?_ _)|(with_reducible refine But.drew ?_)|(with_reducible refine Fr.set ?_ _ _)|(with_reducible refine But.alloc ?_ _)))⟩
 case rest =>
  obtain ⟨b,aw,hb,aj,hS,hF⟩:=hcut
  have HN:=QA (Lx.number_at _ _ aj)
  clear aj
  go_wp2_with fail;refine (peek0_any bx s b _ hs (by omega) (by (repeat' (first|(with_reducible assumption)|(with_reducible refine Scan.drewN ?_ _)|(with_reducible refine Scan.drew ?_))))).mono ?_;rintro e w' ⟨rfl,n2,rfl⟩
  go_wp2_with fail
  refine (while_digit bx s b _ hs hb (by (repeat' (first|(with_reducible assumption)|(with_reducible refine Scan.drewN ?_ _)|(with_reducible refine Scan.drew ?_))))).mono ?_
  rintro e w1 ⟨c,hbc,hc,hdc,rfl,hS1,O⟩
  have O:=But.undrew O
  have E:=QA hdc
  clear hdc
  have Z:Fr bx w w1:=hF.trans O
  clear O
  have am:∀ w',Scan w' bx s c→Fr bx w w'→((Lx.digits (sfx s b)).length=(sfx s b).length∨((Lx.hd (sfx s b)).toNat=48∧1<(sfx s b).length-(Lx.digits (sfx s b)).length)) →
    NumPost bx s a w (.returned (.int .i64 0)) w':=fun w' h1 h2 h3=>⟨c,by omega,hc,h1,h2,.inr ⟨by rw[HN.out,if_pos h3],rfl⟩⟩
  have L:(Lx.digits (sfx s b)).length=s.size-c:=by
   have h1:=congrArg List.length E.out
   rw[sfx_len] at h1
   exact h1.symm
  have R:=sfx_len s b
  have ac:=QA am;have W:=QA L;have S:=QA R
  clear am L R
  by_cases hcb:c=b
  ·have B:((c:Int)-(b:Int)==0)=true:=by rw[beq_iff_eq];omega
   have X:=QA hcb
   clear hcb
   go_wp2_with fail
   go_ret
   exact ac.out _ hS1 Z (.inl (by rw[W.out,S.out,X.out]))
  ·have B:((c:Int)-(b:Int)==0)=false:=by rw[beq_eq_false_iff_ne];omega
   have X:=QA hcb
   clear hcb
   by_cases h48:(bt s b).toNat=48∧1<c-b
   ·have e2:=eqT (n:=(bt s b).toNat) (k:=48) (by omega)
    have Y:decide (1<(c:Int)-(b:Int))=true:=by simp;omega
    have ag:=QA h48
    clear h48
    go_wp2_with fail
    go_ret
    exact ac.out _ hS1 Z (.inr ⟨by rw[hd_sfx];exact ag.out.1,by rw[W.out,S.out];have:=ag.out.2;omega⟩)
   ·have aa:((((bt s b).toNat:Int)==48)=false)∨((((bt s b).toNat:Int)==48)=true∧decide (1<(c:Int)-(b:Int))=false):=by
     by_cases h1:(bt s b).toNat=48
     ·exact .inr ⟨eqT (by omega),by simp;omega⟩
     ·exact .inl (eqF (by omega))
    have T:Hid (Lx.number (sfx s a)=Lx.numFrac (sfx s c)):=by
     show _=_
     rw[HN.out,if_neg,E.out]
     ·rfl
     ·rw[W.out,S.out,hd_sfx]
      have:=X.out
      omega
    have au:a≤c:=by omega
    clear HN ac W S h48 E X hbc aw hb
    rcases aa with e2|⟨e2,Y⟩
    all_goals
     go_wp2_with fail;refine (peek0_any bx s c _ hs (by omega) (by (repeat' (first|(with_reducible assumption)|(with_reducible refine Scan.drewN ?_ _)|(with_reducible refine Scan.drew ?_))))).mono ?_;rintro e w' ⟨rfl,n3,rfl⟩
     clear B
     try clear e2
     try clear Y
     go_upto_if 34 with (fail)
     go_cut [3] (fun s3 wx=>∃ (k:Nat) (d:Nat),s3=.int .i64 k∧(k=2∨k=3)∧a≤d∧d≤s.size∧Lx.number (sfx s a)=Lx.numExp (k,sfx s d)∧Scan wx bx s d∧Fr bx w wx)
     case first =>
      have c0:=hS1.c0;have c1:=hS1.c1;have f1:=hS1.f1
      by_cases h46:(bt s c).toNat=46
      ·have B:=eqT (n:=(bt s c).toNat) (k:=46) (by omega)
       have C:=QA h46
       clear h46
       have I:c<s.size:=by
        rcases ZX c s.size with h'|h'
        ·exact h'
        ·have:=C.out;rw[bt_end _ _ h'] at this;exact absurd this (by decide)
       go_wp2_with fail
       refine (while_digit bx s (c+1) _ hs I ((hS1.drewN _).put (c+1))).mono ?_
       rintro e w2 ⟨d,hcd,U,hdd,rfl,o,J⟩
       have V:Fr bx w w2:=But.trans (by (repeat' (first|(with_reducible assumption)|(with_reducible exact But.refl _ _)|(with_reducible refine But.drewN ?_ _)|(with_reducible refine But.drew ?_)|(with_reducible refine Fr.set ?_ _ _)|(with_reducible refine But.alloc ?_ _)))) J
       have ae:Hid (Lx.numFrac (sfx s c)=if d=c+1 then none else Lx.numExp (3,sfx s d)):=by
        show _=_
        have hl:=congrArg List.length hdd
        rw[sfx_len] at hl
        unfold Lx.numFrac
        rw[hd_sfx,if_pos C.out,sfx_drop,Lx.digits,← hdd,sfx_len,sfx_len]
        by_cases hdc:d=c+1
        ·rw[if_pos (by omega),if_pos hdc]
        ·rw[if_neg (by omega),if_neg hdc]
       clear hdd c0 c1 f1 J B
       by_cases hdc:d=c+1
       ·have B:((d:Int)-((c:Int)+1)==0)=true:=by rw[beq_iff_eq];omega
        have E:=QA hdc
        clear hdc
        go_wp2_with fail
        go_ret
        exact ⟨d,by omega,U,o,V,.inr ⟨by rw[T.out,ae.out,if_pos E.out],rfl⟩⟩
       ·have B:((d:Int)-((c:Int)+1)==0)=false:=by rw[beq_eq_false_iff_ne];omega
        have E:=QA hdc
        clear hdc
        go_wp2_with fail
        go_meet
        exact ⟨3,d,rfl,.inr rfl,by omega,U,by rw[T.out,ae.out,if_neg E.out],o,V⟩
      ·have B:=eqF (n:=(bt s c).toNat) (k:=46) (by omega)
       have C:=QA h46
       clear h46
       go_wp2_with fail
       go_meet
       exact ⟨2,c,rfl,.inl rfl,by omega,hc,by rw[T.out,Lx.numFrac,hd_sfx,if_neg C.out],by (repeat' (first|(with_reducible assumption)|(with_reducible refine Scan.drewN ?_ _)|(with_reducible refine Scan.drew ?_))),by (repeat' (first|(with_reducible assumption)|(with_reducible exact But.refl _ _)|(with_reducible refine But.drewN ?_ _)|(with_reducible refine But.drew ?_)|(with_reducible refine Fr.set ?_ _ _)|(with_reducible refine But.alloc ?_ _)))⟩
     case rest =>
      obtain ⟨k,d,rfl,hk,G,U,D,o,J⟩:=hcut
      have A:=QA D
      have HK:=QA hk
      clear D hk T hc au hS1 Z O h hF hS
      go_wp2_with fail;refine (peek0_any bx s d _ hs (by omega) (by (repeat' (first|(with_reducible assumption)|(with_reducible refine Scan.drewN ?_ _)|(with_reducible refine Scan.drew ?_))))).mono ?_;rintro e w' ⟨rfl,n4,rfl⟩
      have ah:=or32 (bt s d)
      go_upto_if 48 with (fail)
      go_cut [3] (fun s3 wx=>∃ (k:Nat) (d:Nat),s3=.int .i64 k∧(k=2∨k=3)∧a≤d∧d≤s.size∧Lx.number (sfx s a)=Lx.numEnd (k,sfx s d)∧Scan wx bx s d∧Fr bx w wx)
      case first =>
       have c0:=o.c0;have c1:=o.c1;have f1:=o.f1
       by_cases h101:(bt s d).toNat ||| 32=101
       ·have B:((((bt s d).toNat ||| 32:Nat):Int)==101)=true:=eqT (by omega)
        have I:d<s.size:=by
         rcases ZX d s.size with h'|h'
         ·exact h'
         ·rw[bt_end _ _ h'] at h101;exact absurd h101 (by decide)
        have P:=QA h101
        clear h101
        go_wp2_with fail
        refine (peek0_any bx s (d+1) _ hs I ((o.drewN _).put (d+1))).mono ?_
        rintro e w3 ⟨rfl,n5,hw3⟩
        have Q:Scan w3 bx s (d+1):=by rw[hw3];exact Scan.drewN ((o.drewN _).put (d+1)) _
        have V:Fr bx w w3:=by rw[hw3];(repeat' (first|(with_reducible assumption)|(with_reducible exact But.refl _ _)|(with_reducible refine But.drewN ?_ _)|(with_reducible refine But.drew ?_)|(with_reducible refine Fr.set ?_ _ _)|(with_reducible refine But.alloc ?_ _)))
        clear hw3 c0 c1 f1 B ah
        have c0:=Q.c0;have c1:=Q.c1;have f1:=Q.f1
        have av:((((bt s (d+1)).toNat:Int)==43)=true∧((bt s (d+1)).toNat=43∨(bt s (d+1)).toNat=45)) ∨
          ((((bt s (d+1)).toNat:Int)==43)=false∧(((bt s (d+1)).toNat:Int)==45)=true∧((bt s (d+1)).toNat=43∨(bt s (d+1)).toNat=45)) ∨
          ((((bt s (d+1)).toNat:Int)==43)=false∧(((bt s (d+1)).toNat:Int)==45)=false∧¬ ((bt s (d+1)).toNat=43∨(bt s (d+1)).toNat=45)):=by
         by_cases h1:(bt s (d+1)).toNat=43
         ·exact .inl ⟨eqT (by omega),.inl h1⟩
         ·by_cases h2:(bt s (d+1)).toNat=45
          ·exact .inr (.inl ⟨eqF (by omega),eqT (by omega),.inr h2⟩)
          ·exact .inr (.inr ⟨eqF (by omega),eqF (by omega),by omega⟩)
        have HX:Hid (Lx.numExp (k,sfx s d)=(let l2:=if (bt s (d+1)).toNat=43∨(bt s (d+1)).toNat=45 then (sfx s (d+1)).drop 1 else sfx s (d+1);if (Lx.digits l2).length=l2.length then none else Lx.numEnd (3,Lx.digits l2))):=by
         show _=_
         unfold Lx.numExp
         rw[if_pos (by rw[hd_sfx,UInt8.toNat_or];exact P.out),sfx_drop]
         simp only[hd_sfx]
        have ad:∀ g f,sfx s g=(if (bt s (d+1)).toNat=43∨(bt s (d+1)).toNat=45 then (sfx s (d+1)).drop 1 else sfx s (d+1))→g≤f→f≤s.size→sfx s f=(sfx s g).dropWhile Lx.isDigit →
          Lx.number (sfx s a)=if f=g then none else Lx.numEnd (3,sfx s f):=fun g f hg hgf hf hd'=>by
         rw[A.out,HX.out]
         simp only[← hg]
         have hl:=congrArg List.length hd'
         rw[sfx_len] at hl
         unfold Lx.digits
         rw[← hd',sfx_len,sfx_len]
         by_cases hfg:f=g
         ·rw[if_pos (by omega),if_pos hfg]
         ·rw[if_neg (by omega),if_neg hfg]
        have HY:=QA ad
        clear HX ad A
        have ar:d+1≤s.size:=I
        rcases av with ⟨B,Y⟩|⟨B,e2,Y⟩|⟨B,e2,Y⟩
        all_goals
         have E3:=QA Y
         clear Y
         go_wp2_with fail
         first
         | (
           have ak:d+1<s.size:=by
            rcases ZX (d+1) s.size with h'|h'
            ·exact h'
            ·have:=E3.out;rw[bt_end _ _ h'] at this;exact absurd this (by decide)
           refine (while_digit bx s (d+1+1) _ hs ak (Q.put (d+1+1))).mono ?_
           rintro e w4 ⟨f,hgf,hf,hdf,rfl,hS4,hF5⟩
           have K:Fr bx w w4:=But.trans (by (repeat' (first|(with_reducible assumption)|(with_reducible exact But.refl _ _)|(with_reducible refine But.drewN ?_ _)|(with_reducible refine But.drew ?_)|(with_reducible refine Fr.set ?_ _ _)|(with_reducible refine But.alloc ?_ _)))) hF5
           have HZ:=QA (HY.out (d+1+1) f (by rw[if_pos E3.out,sfx_drop]) hgf hf hdf)
           clear hdf hF5 c0 c1 f1 B
           by_cases hfg:f=d+1+1
           ·have e4:((f:Int)-((d:Int)+1+1)==0)=true:=by rw[beq_iff_eq];omega
            have F:=QA hfg
            clear hfg
            go_wp2_with fail
            go_ret
            exact ⟨f,by omega,hf,hS4,K,.inr ⟨by rw[HZ.out,if_pos F.out],rfl⟩⟩
           ·have e4:((f:Int)-((d:Int)+1+1)==0)=false:=by rw[beq_eq_false_iff_ne];omega
            have F:=QA hfg
            clear hfg
            go_wp2_with fail
            go_meet
            exact ⟨3,f,rfl,.inr rfl,by omega,hf,by rw[HZ.out,if_neg F.out],hS4,K⟩)
         | (
           refine (while_digit bx s (d+1) _ hs ar Q).mono ?_
           rintro e w4 ⟨f,hgf,hf,hdf,rfl,hS4,hF5⟩
           have K:Fr bx w w4:=But.trans V hF5
           have HZ:=QA (HY.out (d+1) f (by rw[if_neg E3.out]) hgf hf hdf)
           clear hdf hF5 c0 c1 f1 B
           by_cases hfg:f=d+1
           ·have e4:((f:Int)-((d:Int)+1)==0)=true:=by rw[beq_iff_eq];omega
            have F:=QA hfg
            clear hfg
            go_wp2_with fail
            go_ret
            exact ⟨f,by omega,hf,hS4,K,.inr ⟨by rw[HZ.out,if_pos F.out],rfl⟩⟩
           ·have e4:((f:Int)-((d:Int)+1)==0)=false:=by rw[beq_eq_false_iff_ne];omega
            have F:=QA hfg
            clear hfg
            go_wp2_with fail
            go_meet
            exact ⟨3,f,rfl,.inr rfl,by omega,hf,by rw[HZ.out,if_neg F.out],hS4,K⟩)
       ·have B:((((bt s d).toNat ||| 32:Nat):Int)==101)=false:=eqF (by omega)
        have P:=QA h101
        clear h101
        go_wp2_with fail
        go_meet
        exact ⟨k,d,rfl,HK.out,G,U,by rw[A.out,Lx.numExp,if_neg (by rw[hd_sfx,UInt8.toNat_or];exact P.out)],by (repeat' (first|(with_reducible assumption)|(with_reducible refine Scan.drewN ?_ _)|(with_reducible refine Scan.drew ?_))),by (repeat' (first|(with_reducible assumption)|(with_reducible exact But.refl _ _)|(with_reducible refine But.drewN ?_ _)|(with_reducible refine But.drew ?_)|(with_reducible refine Fr.set ?_ _ _)|(with_reducible refine But.alloc ?_ _)))⟩
      case rest =>
       clear o J A HK ah
       obtain ⟨k,d,rfl,hk,G,U,D,o,J⟩:=hcut
       have A:=QA D
       have HK:=QA hk
       clear D hk
       go_wp2_with fail;refine (peek0_any bx s d _ hs (by omega) (by (repeat' (first|(with_reducible assumption)|(with_reducible refine Scan.drewN ?_ _)|(with_reducible refine Scan.drew ?_))))).mono ?_;rintro e w' ⟨rfl,n5,rfl⟩
       by_cases h46:(bt s d).toNat=46
       ·have B:=eqT (n:=(bt s d).toNat) (k:=46) (by omega)
        have C:=QA h46
        clear h46
        go_wp2_with fail
        go_ret
        exact ⟨d,G,U,by (repeat' (first|(with_reducible assumption)|(with_reducible refine Scan.drewN ?_ _)|(with_reducible refine Scan.drew ?_))),by (repeat' (first|(with_reducible assumption)|(with_reducible exact But.refl _ _)|(with_reducible refine But.drewN ?_ _)|(with_reducible refine But.drew ?_)|(with_reducible refine Fr.set ?_ _ _)|(with_reducible refine But.alloc ?_ _))),.inr ⟨by rw[A.out,Lx.numEnd,hd_sfx,if_pos (.inl C.out)],rfl⟩⟩
       ·have B:=eqF (n:=(bt s d).toNat) (k:=46) (by omega)
        have C:=QA h46
        clear h46
        cases hlet:Lx.isLetter (bt s d)
        ·have H:=QA hlet
         clear hlet
         cases hdig:Lx.isDigit (bt s d)
         ·have M:=QA hdig
          clear hdig
          go_wp2_with (first|(go_at_call 158;refine (letter_any _ _).mono ?_;rintro e w' ⟨rfl,rfl⟩;rw[H.out])|(go_at_call 159;refine (digit_any _ _).mono ?_;rintro e w' ⟨rfl,rfl⟩;rw[M.out]))
          go_ret
          refine ⟨d,G,U,by (repeat' (first|(with_reducible assumption)|(with_reducible refine Scan.drewN ?_ _)|(with_reducible refine Scan.drew ?_))),by (repeat' (first|(with_reducible assumption)|(with_reducible exact But.refl _ _)|(with_reducible refine But.drewN ?_ _)|(with_reducible refine But.drew ?_)|(with_reducible refine Fr.set ?_ _ _)|(with_reducible refine But.alloc ?_ _))),.inl ⟨k,?_,HK.out,rfl⟩⟩
          rw[A.out,Lx.numEnd,hd_sfx,H.out,M.out,if_neg (by have:=C.out;simp[this])]
         ·have M:=QA hdig
          clear hdig
          go_wp2_with (first|(go_at_call 158;refine (letter_any _ _).mono ?_;rintro e w' ⟨rfl,rfl⟩;rw[H.out])|(go_at_call 159;refine (digit_any _ _).mono ?_;rintro e w' ⟨rfl,rfl⟩;rw[M.out]))
          go_ret
          exact ⟨d,G,U,by (repeat' (first|(with_reducible assumption)|(with_reducible refine Scan.drewN ?_ _)|(with_reducible refine Scan.drew ?_))),by (repeat' (first|(with_reducible assumption)|(with_reducible exact But.refl _ _)|(with_reducible refine But.drewN ?_ _)|(with_reducible refine But.drew ?_)|(with_reducible refine Fr.set ?_ _ _)|(with_reducible refine But.alloc ?_ _))),.inr ⟨by rw[A.out,Lx.numEnd,hd_sfx,if_pos (.inr (.inr M.out))],rfl⟩⟩
        ·have H:=QA hlet
         clear hlet
         go_wp2_with (first|(go_at_call 158;refine (letter_any _ _).mono ?_;rintro e w' ⟨rfl,rfl⟩;rw[H.out])|(go_at_call 159;refine (digit_any _ _).mono ?_;rintro e w' ⟨rfl,rfl⟩))
         go_ret
         exact ⟨d,G,U,by (repeat' (first|(with_reducible assumption)|(with_reducible refine Scan.drewN ?_ _)|(with_reducible refine Scan.drew ?_))),by (repeat' (first|(with_reducible assumption)|(with_reducible exact But.refl _ _)|(with_reducible refine But.drewN ?_ _)|(with_reducible refine But.drew ?_)|(with_reducible refine Fr.set ?_ _ _)|(with_reducible refine But.alloc ?_ _))),.inr ⟨by rw[A.out,Lx.numEnd,hd_sfx,if_pos (.inr (.inl H.out))],rfl⟩⟩
def hexDigits:List UInt8:=[48,49,50,51,52,53,54,55,56,57,97,98,99,100,101,102]
def hexGo (c:UInt8):Option Nat :=
 if Lib.indexByte hexDigits (c ||| 32)<0∨c.toNat<48∨(57<c.toNat∧c.toNat<65) then none else some (Lib.indexByte hexDigits (c ||| 32)).toNat
theorem hexGo_fin:∀ n:Fin 256,hexGo (UInt8.ofNat n.val)=Lx.hexv (UInt8.ofNat n.val)∧Lib.indexByte hexDigits (UInt8.ofNat n.val ||| 32)<16∧-1≤Lib.indexByte hexDigits (UInt8.ofNat n.val ||| 32):=by decide +kernel
theorem hexGo_eq (c:UInt8):hexGo c=Lx.hexv c∧Lib.indexByte hexDigits (c ||| 32)<16∧-1≤Lib.indexByte hexDigits (c ||| 32):=by
 have:=hexGo_fin ⟨c.toNat,UInt8.toNat_lt c⟩
 simpa using this
theorem hexIdx (c:UInt8) (w:World) :
  Calls Tryz.prog 163 #[.string ⟨#[48,49,50,51,52,53,54,55,56,57,97,98,99,100,101,102]⟩,.int .u8 ((c.toNat ||| 32:Nat):Int)] w fun e w'=>e=.returned (.int .i64 (Lib.indexByte hexDigits (c ||| 32)))∧w'=w:=by
 refine (Tryz.strings_IndexByte _ _ _).mono ?_
 rintro e w' ⟨rfl,rfl⟩
 refine ⟨?_,rfl⟩
 have o:(((c.toNat ||| 32:Nat):Int)).toNat.toUInt8=c ||| 32:=by
  rw[Int.toNat_natCast,show c.toNat ||| 32=(c ||| 32).toNat from (UInt8.toNat_or c 32).symm]
  simp
 rw[o]
 rfl
def hexAns (o:Option Nat):Int:=match o with|some v=>v|none=>-1
def HexPost (s:ByteArray) (w:World) (e:Ending) (w':World):Prop:=e=.returned (.int .i32 (hexAns (Lx.hex s.data.toList)))∧w'=w
theorem hexs_none {s:ByteArray} {k r:Nat} (hk:k<4) (hks:k<s.size) (h:Lx.hexv (bt s k)=none):Lx.hexs (4-k) r (sfx s k)=none:=by
 rw[sfx_cons s k hks,show 4-k=(3-k)+1 by omega,Lx.hexs,h]
theorem hexs_some {s:ByteArray} {k r v:Nat} (hk:k<4) (hks:k<s.size) (h:Lx.hexv (bt s k)=some v):Lx.hexs (4-k) r (sfx s k)=Lx.hexs (4-(k+1)) (r*16+v) (sfx s (k+1)):=by
 rw[sfx_cons s k hks,show 4-k=(3-k)+1 by omega,Lx.hexs,h]
 rw[show 4-(k+1)=3-k by omega]
theorem hexs_short:∀ (n r:Nat) (l:List UInt8),l.length<n→Lx.hexs n r l=none
 | 0,_,_,h=>by omega
 | n+1,r,[],_=>rfl
 | n+1,r,c::l,h=>by
  unfold Lx.hexs
  split
  ·rfl
  ·exact hexs_short n _ l (by simpa using h)
set_option maxHeartbeats 4000000 in
set_option maxRecDepth 100000 in
theorem hex_any (s:ByteArray) (w:World) (hs:s.size≤4096):Calls Tryz.prog 228 #[.string s] w (HexPost s w):=by
 by_cases h4:s.size<4
 ·have H:(s.size:Int)<4:=by omega
  go_enter Tryz.func228,Tryz.ntmps228
  go_wp2
  go_ret
  have:Lx.hex s.data.toList=none:=hexs_short 4 0 _ (by simpa using h4)
  exact ⟨by rw[this];rfl,rfl⟩
 ·have H:(4:Int)≤s.size:=by omega
  have A:Lx.hexs (4-0) 0 (sfx s 0)=Lx.hex s.data.toList:=by rw[sfx_all];rfl
  have F:=QA A
  clear A
  go_enter Tryz.func228,Tryz.ntmps228
  go_wp2
  go_loop [3,9] (fun s3 s9=>∃ (k r:Nat),k≤4∧r<16 ^ k∧s3=.int .i32 r∧s9=.int .i64 k∧Lx.hexs (4-k) r (sfx s k)=Lx.hex s.data.toList) (fun _ s9=>(4-intOf s9).toNat)
  case atStart=>exact ⟨0,0,by omega,by decide,rfl,rfl,F.out⟩
  case round =>
   obtain ⟨k,r,U,N,rfl,rfl,K⟩:=hrel
   have C:=QA K
   have J:=QA N
   clear K N
   by_cases hk4:k<4
   ·have T:(k:Int)<s.size:=by omega
    have L:r<4096:=by
     have Q:=J.out
     have V:16 ^ k≤16 ^ 3:=Nat.pow_le_pow_right (by omega) (by omega)
     omega
    obtain ⟨g1,g2,R⟩:=hexGo_eq (bt s k)
    have P:=or32 (bt s k)
    have G:=hexIdx (bt s k)
    unfold hexGo at g1
    generalize Lib.indexByte hexDigits (bt s k ||| 32)=kk at g1 g2 R G
    have O:=QA g1
    have S:=QA G
    clear g1 G
    have o:(decide (kk<0)=true∧Lx.hexv (bt s k)=none)∨(decide (kk<0)=false∧decide (((bt s k).toNat:Int)<48)=true∧Lx.hexv (bt s k)=none) ∨
      (decide (kk<0)=false∧decide (((bt s k).toNat:Int)<48)=false∧decide (57<((bt s k).toNat:Int))=true∧decide (((bt s k).toNat:Int)<65)=true∧Lx.hexv (bt s k)=none) ∨
      (decide (kk<0)=false∧decide (((bt s k).toNat:Int)<48)=false∧decide (57<((bt s k).toNat:Int))=true∧decide (((bt s k).toNat:Int)<65)=false∧Lx.hexv (bt s k)=some kk.toNat∧0≤kk) ∨
      (decide (kk<0)=false∧decide (((bt s k).toNat:Int)<48)=false∧decide (57<((bt s k).toNat:Int))=false∧Lx.hexv (bt s k)=some kk.toNat∧0≤kk):=by
     have B:=O.out
     by_cases a1:kk<0
     ·exact .inl ⟨by simpa using a1,by rw[← B,if_pos (.inl a1)]⟩
     ·by_cases a2:(bt s k).toNat<48
      ·exact .inr (.inl ⟨by simpa using a1,by simp;omega,by rw[← B,if_pos (.inr (.inl a2))]⟩)
      ·by_cases a3:57<(bt s k).toNat
       ·by_cases a4:(bt s k).toNat<65
        ·exact .inr (.inr (.inl ⟨by simpa using a1,by simp;omega,by simp;omega,by simp;omega,by rw[← B,if_pos (.inr (.inr ⟨a3,a4⟩))]⟩))
        ·exact .inr (.inr (.inr (.inl ⟨by simpa using a1,by simp;omega,by simp;omega,by simp;omega,by rw[← B,if_neg (by omega)],by omega⟩)))
       ·exact .inr (.inr (.inr (.inr ⟨by simpa using a1,by simp;omega,by simp;omega,by rw[← B,if_neg (by omega)],by omega⟩)))
    rcases o with ⟨e1,e5⟩|⟨e1,e2,e5⟩|⟨e1,e2,e3,e4,e5⟩|⟨e1,e2,e3,e4,e5,e6⟩|⟨e1,e2,e3,e5,e6⟩
    all_goals
     have D:=QA e5
     clear e5
     go_wp2_with (go_at_call 163;refine (S.out _).mono ?_;rintro e w' ⟨rfl,hw'⟩;subst hw')
    ·go_ret
     exact ⟨by rw[← C.out,hexs_none hk4 (by omega) D.out];rfl,rfl⟩
    ·go_ret
     exact ⟨by rw[← C.out,hexs_none hk4 (by omega) D.out];rfl,rfl⟩
    ·go_ret
     exact ⟨by rw[← C.out,hexs_none hk4 (by omega) D.out];rfl,rfl⟩
    all_goals
     obtain ⟨v,rfl⟩:=Int.eq_ofNat_of_zero_le e6
     have I:bits BinOp.or IntKind.i32 ((r:Int)*16) (v:Int)=((r*16+v:Nat):Int):=by
      rw[bits_join .i32 31 (by decide) wraps_i32 4 _ _ (by omega) (by omega) (by omega) (by omega) (by omega) (by omega)]
      omega
     refine ⟨⟨k+1,r*16+v,by omega,?_,by rw[I],by go_num,?_⟩,by simp[intOf];omega⟩
     ·have Q:=J.out
      rw[Nat.pow_succ]
      omega
     ·rw[← C.out]
      have:=hexs_some (r:=r) hk4 (by omega) D.out
      rw[Int.toNat_natCast] at this
      exact this.symm
   ·have M:(4:Int)≤k:=by omega
    have E:k=4:=by omega
    go_wp2
    go_ret
    refine ⟨?_,rfl⟩
    rw[← C.out,E]
    rfl
end Go.Proofs.YtefjgpkpplkkgaaGreatDoor
