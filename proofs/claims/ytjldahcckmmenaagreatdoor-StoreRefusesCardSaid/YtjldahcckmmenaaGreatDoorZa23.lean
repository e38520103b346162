/-
  Changes as the document has them: the law's ref, the document's Check, walked. The document's changes: less, Change, Changes, walked. The document's Changes; a Write that is refused, walked.
-/
import Derived.Test.YtjldahcckmmenaaGreatDoorZa21
open Array renaming getInternal_eq_getElem → QD
open Go.Lib renaming hid → QA
open List renaming setIfInBounds_toArray → QC, drop_succ_cons → QE, take_succ_cons → QF, set_cons_succ → QG, set_cons_zero → QH, getElem_cons_zero → QI, getElem_cons_succ → QJ, getElem_toArray → QK, drop_zero → QL, take_zero → QN, length_cons → QO, length_append → QS, mem_of_getElem? → QZ, getElem?_eq_getElem → ZG
open Nat renaming le_refl → QM, reduceAdd → QW, zero_le → ZS
namespace Go.Proofs.YtjldahcckmmenaaGreatDoor
set_option maxRecDepth 100000
set_option maxHeartbeats 4000000
set_option linter.unusedSimpArgs false
set_option linter.unusedVariables false
open Go Go.RowKit
open Go.Maps Go.WideMaps
theorem Er (v:Value) (l:Sto.ME) (w:World) (F:Nat→Prop) (h:Au w F v l) (hl:l.length≤1000000) (hok:∀o∈Sto.opsOf l,ROk o) :
  Calls Tryz.prog 12 #[v] w λe w'=>∃v',e=.returned v'∧B7 w' w.heap.size v' (Sto.opsOf l)∧Below w.heap.size w w':=by
 obtain⟨va,vc,rfl⟩:=h.form;have H:=QA h;have ag:=QA hok;clear h hok;go_enter Tryz.func12,Tryz.ntmps12;go_wp2_with fail
 go_loopg [3,8] l.length (λk s3 s8 wr=>∃j:Nat,j≤l.length∧k=l.length-j∧s8=.int .i64 (j:Nat)∧B7 wr w.heap.size s3 ((Sto.opsOf l).take j)∧Below w.heap.size w wr)
 case atStart=>exact⟨0,ZS _,rfl,rfl,B7.nil _ _,Below.refl _ _⟩
 case round =>
  obtain⟨j,hj,hk,rfl,K,hB⟩:=hrel;obtain⟨oa,oc,rfl⟩:=K.form;have HK:=QA hk;have Z:=QA hB;have L:((Sto.opsOf l).take j).length=j:=by rw[List.length_take,Sto.opsOf_len];omega
  rw[L]at K ⊢;have R:=QA K;have af:=QA L;clear hk hB K L;have av:(0:Int)≤(j:Int):=Int.natCast_nonneg _;by_cases hjn:j<l.length
  ·have T:(j:Int)<(l.length:Int):=by omega
   obtain⟨⟨o,pv⟩,Y⟩:∃p,l[j]?=some p:=⟨_,ZG hjn⟩
   obtain⟨B,X,g,ah,rfl,hg,N⟩:=(H.out.mv (MV.below Z.out)).at Y;have E:=X.1;have al:Hid ((Sto.opsOf l).take (j+1)=(Sto.opsOf l).take j++[o]):=QA (by rw[List.take_add_one,Sto.opsOf_get Y];rfl);have ab:Hid (ROk o):=QA (ag.out o (QZ (Sto.opsOf_get Y)));obtain⟨U,V,W,au⟩:=E.form;simp only at W B E N;subst W;have G:Below wr.heap.size wr (wr.alloc (.cells (AH o (.slice U o.2.2.length V)).toArray 43)):=(Below.refl _ _).alloc (QM _) _;have C:=Al.new wr o (.slice U o.2.2.length V);have M:=R.out.keep G;have D:=E.below G;have O:=QA E;have P:=QA N;have A:=QA B;clear B Y X E N;obtain⟨w2,J⟩:∃x,wr.alloc (.cells (AH o (.slice U o.2.2.length V)).toArray 43)=x:=⟨_,rfl⟩
   have Q:w2.heap.size=wr.heap.size+1:=by rw[← J];simp
   rw[J]at G C M D;have ay:=C.cell (BA A.out _);have aw:=C.cell (Ak A.out _);have aj:=QA C.key;have I:=QA (Z.out.trans (G.mono Z.out.size));have S:=QA M;have aC:=Fh D;have ad:=QA J;have aA:(j:Int)+1≤1000001:=by omega
   have aB:=QA Q;clear G C M D J Q;go_wp2_with (first|(guard_target=wpList _ _ _ ({ dst:=_,op:=.load 43 _,type:=_,pos:=_,after:=_,guard:=none }::_) _ _;refine AR rfl _ rfl g (ah+j*34) o (.slice U o.2.2.length V) A.out rfl P.out ?_)|(guard_target=wpList _ _ _ ({ dst:=_,op:=.store 43 _ _,type:=_,pos:=_,after:=_,guard:=none }::_) _ _;refine AW rfl _ _ rfl _ rfl o (.slice U o.2.2.length V) A.out O.out.one rfl rfl ?_;rw[ad.out])|(guard_target=wpList _ _ _ ({ dst:=_,op:=.load 40 _,type:=_,pos:=_,after:=_,guard:=none }::_) _ _;refine Ah rfl _ rfl wr.heap.size 0 o.1 A.out rfl aj.out ?_)|(guard_target=wpList _ _ _ ({ dst:=_,op:=.build 82 _,type:=_,pos:=_,after:=_,guard:=_ }::_) _ _;refine Jv rfl _ _ _ rfl o A.out rfl rfl rfl ?_)|(guard_target=wpList _ _ _ ({ dst:=_,op:=.buildSlice 33 _ _,type:=_,pos:=_,after:=_,guard:=_ }::_) _ _;refine CS rfl _ rfl o A.out rfl ?_)|(at_builtin;refine Am rfl _ _ rfl w.heap.size (.slice oa j oc) ((Sto.opsOf l).take j) rfl (S.out.keep ((Below.refl _ _).alloc (QM _) _)) o ab.out w2.heap.size 0 1 1 rfl rfl (λi u hi=>by rw[Nat.zero_add];exact AA (AJ w2 _) i u (by simpa using hi)) (by rw[af.out];omega) (by have:=I.out.size;simp;omega) ?_;intro v8 w8 ho8 hg8 hl8;obtain⟨a8,c8,ae⟩:=ho8.form;subst ae;have ac:=QA ho8;have ai:=QA hg8;clear ho8 hg8 hl8)|fail);go_roundg (l.length-(j+1))
   case measure=>rw[HK.out];omega
   case rel =>
    refine⟨j+1,by omega,rfl,by simp,by rw[al.out];have h8:=ac.out;simp only[QS,List.length_take,List.length_singleton]at h8;exact h8,?_⟩;have h1:Below w.heap.size w (w2.alloc (.cells (AO o).toArray 82)):=I.out.alloc I.out.size _;exact h1.grown ai.out (by have:=I.out.size;simp;omega) (λg hg=>(S.out.row.lt g hg).1)
  ·have T:(l.length:Int)≤(j:Int):=by omega
   have HT:Hid ((Sto.opsOf l).take j=Sto.opsOf l):=QA (List.take_of_length_le (by rw[Sto.opsOf_len];omega));go_wp2_with fail;refine bodyPost_ret (v:=.slice oa j oc) (by simp[results,Tryz.results12,go_sem]) rfl ?_;refine⟨_,rfl,?_,Z.out⟩;have h1:=R.out
   rwa [HT.out]at h1
theorem Km {ops:List Sto.Op} (h:64<ops.length):Sto.chk ops=8:=by unfold Sto.chk;rw[if_pos h]
theorem KY {ops:List Sto.Op} (h:ops.length≤64) (hb:ops.any Sto.badK=true):Sto.chk ops=1:=by unfold Sto.chk;rw[if_neg (by omega),if_pos hb]
theorem DZ {o:Sto.Op} (h:o.1.length=32):(AO o)[32]?=some (.int .i64 o.2.1):=BA h _
theorem Gi {o:Sto.Op} (h:o.1.length=32):(AO o)[33]?=some (txt o.2.2):=Ak h _
theorem ES (v:Value) (E:Sto.Ents) (w:World) (F:Nat→Prop) (h:BW w F v E) (hl:E.length≤1000000) :
  Calls Tryz.prog 11 #[v] w λe w'=>e=.returned (.int .i64 (Sto.chk E))∧w'=w:=by
 obtain⟨va,vc,rfl⟩:=h.form;have H:=QA h;clear h;go_enter Tryz.func11,Tryz.ntmps11;by_cases h64:64<E.length
 ·have U:(64:Int)<(E.length:Int):=by omega
  go_wp2_with fail;go_ret;exact⟨by rw[Km h64];rfl,rfl⟩
 ·have U:(E.length:Int)≤64:=by omega
  go_wp2_with fail
  go_loopg [3,10] E.length (λk s3 s10 wr=>∃(j m:Nat),j≤E.length∧k=E.length-j∧s10=.int .i64 (j:Nat)∧s3=.int .i64 (m:Nat)∧m=Sto.mass (E.take j)∧m≤j*1000000100∧(E.take j).any Sto.badK=false∧wr=w)
  case atStart=>exact⟨0,0,ZS _,rfl,rfl,rfl,rfl,ZS _,rfl,rfl⟩
  case round =>
   obtain⟨j,m,hj,hk,rfl,rfl,hm,al,G,rfl⟩:=hrel;have HK:=QA hk;have X:=QA hm;have I:=QA G;clear hk hm G;have ah:(0:Int)≤(j:Int):=Int.natCast_nonneg _;have ai:(m:Int)≤64000006400:=by omega
   have ao:(0:Int)≤(m:Int):=Int.natCast_nonneg _;by_cases hjn:j<E.length
   ·have T:(j:Int)<(E.length:Int):=by omega
    obtain⟨o,P⟩:∃p,E[j]?=some p:=⟨_,ZG hjn⟩
    obtain⟨D,g,O,rfl,hg,L⟩:=H.out.at P;have R:=Sto.mass_take P;have J:E.take (j+1)=E.take j++[o]:=by rw[List.take_add_one,P];rfl
    have an:=QA J;have W:=QA R;have B:Hid (Sto.badK o=true→Sto.chk E=1):=QA λhb=>KY (by omega) (List.any_eq_true.2 ⟨o,QZ P,hb⟩)
    have C:Hid (Sto.badK o=false→(E.take (j+1)).any Sto.badK=false):=QA λhb=>by rw[J,List.any_append,I.out];simp[hb]
    have ak:wr.cell? ⟨g,O+j*34+32,none⟩=some (.int .i64 o.2.1):=L 32 _ (DZ D.key);have Y:wr.cell? ⟨g,O+j*34+33,none⟩=some (txt o.2.2):=L 33 _ (Gi D.key);unfold txt at Y;have aj:(o.2.2.length:Int)≤1000000000:=by have:=D.val;omega
    have am:(0:Int)≤(o.2.2.length:Int):=Int.natCast_nonneg _;have ag:o.2.2.length≤1000000000:=D.val;clear P D L J R;by_cases hk1:o.2.1<0
    ·go_wp2_with fail;refine bodyPost_ret (v:=.int .i64 1) (by simp[results,Tryz.results11,go_sem]) rfl ?_;exact⟨by rw[B.out (by unfold Sto.badK;simp[hk1])],rfl⟩
    ·have af:0≤o.2.1:=by omega
     by_cases hk2:9<o.2.1
     ·go_wp2_with fail;refine bodyPost_ret (v:=.int .i64 1) (by simp[results,Tryz.results11,go_sem]) rfl ?_;exact⟨by rw[B.out (by unfold Sto.badK;simp[hk2])],rfl⟩
     ·have Z:o.2.1≤9:=by omega
      by_cases hk3:o.2.1=0
      ·have N:(o.2.1==0)=true:=by simpa using hk3
       by_cases hk4:0<o.2.2.length
       ·have Q:(o.2.2 != [])=true:=by rw[bne_iff_ne];intro e;rw[e]at hk4;simp at hk4
        have S:(o.2.2==[])=false:=by rw[beq_eq_false_iff_ne];intro e;rw[e]at hk4;simp at hk4
        go_wp2_with fail;refine bodyPost_ret (v:=.int .i64 1) (by simp[results,Tryz.results11,go_sem]) rfl ?_;exact⟨by rw[B.out (by unfold Sto.badK;simp[hk3,hk4])],rfl⟩
       ·have A:o.2.2=[]:=List.eq_nil_of_length_eq_zero (by omega);have Q:(o.2.2 != [])=false:=by rw[A];rfl
        have S:(o.2.2==[])=true:=by rw[A];rfl
        have aa:=QA A;clear A;go_wp2_with fail;go_roundg (E.length-(j+1))
        case measure=>rw[HK.out];omega
        case rel=>exact⟨j+1,m+35+o.2.2.length,by omega,rfl,by simp,by simp,by rw[W.out,X.out];omega,by omega,C.out (by unfold Sto.badK;simp only[Bool.or_eq_false_iff,Bool.and_eq_false_iff,decide_eq_false_iff_not];omega),rfl⟩
      ·have N:(o.2.1==0)=false:=by simpa using hk3
       go_wp2_with fail;go_roundg (E.length-(j+1))
       case measure=>rw[HK.out];omega
       case rel=>exact⟨j+1,m+35+o.2.2.length,by omega,rfl,by simp,by simp,by rw[W.out,X.out];omega,by omega,C.out (by unfold Sto.badK;simp only[Bool.or_eq_false_iff,Bool.and_eq_false_iff,decide_eq_false_iff_not];omega),rfl⟩
   ·have T:(E.length:Int)≤(j:Int):=by omega
    have HT:Hid (E.take j=E):=QA (List.take_of_length_le (by omega));have V:Hid (¬E.any Sto.badK=true):=QA (by have:=I.out;rw[HT.out]at this;simp[this]);have M:Hid (m=Sto.mass E):=QA (by have:=X.out;rwa [HT.out]at this);by_cases hbig:8192<m
    ·have K:(8192:Int)<(m:Int):=by omega
     go_wp2_with fail;refine bodyPost_ret (v:=.int .i64 5) (by simp[results,Tryz.results11,go_sem]) rfl ?_;refine⟨?_,rfl⟩;unfold Sto.chk;rw[if_neg (by omega),if_neg V.out,if_pos (by have:=M.out;omega)]
    ·have K:(m:Int)≤8192:=by omega
     go_wp2_with fail;refine bodyPost_ret (v:=.int .i64 0) (by simp[results,Tryz.results11,go_sem]) rfl ?_;refine⟨?_,rfl⟩;unfold Sto.chk;rw[if_neg (by omega),if_neg V.out,if_neg (by have:=M.out;omega)]
open Go.Maps Go.WideMaps
theorem LA:∀(i:Nat) {a b:List UInt8} {x y:UInt8},a.take i=b.take i→a[i]?=some x→b[i]?=some y→x≠y→(a<b↔x<y)
 | 0,[],b,x,y,_,h1,_,_=>by simp at h1
 | 0,_::_,[],x,y,_,_,h2,_=>by simp at h2
 | 0,p::r,q::s,x,y,_,h1,h2,hne=>by
  simp at h1 h2;subst h1 h2;rw[List.cons_lt_cons_iff];simp[hne]
 | i+1,[],b,x,y,_,h1,_,_=>by simp at h1
 | i+1,_::_,[],x,y,_,_,h2,_=>by simp at h2
 | i+1,p::r,q::s,x,y,h,h1,h2,hne=>by
  rw[QF,QF,List.cons.injEq]at h;rw[List.getElem?_cons_succ]at h1 h2;obtain⟨rfl,h⟩:=h;rw[List.cons_lt_cons_iff,LA i h h1 h2 hne];have:¬p<p:=by rw[UInt8.lt_iff_toNat_lt];omega
  simp[this]
theorem Im (a b:List UInt8) (w:World) (ha:a.length=32) (hb:b.length=32) :
  Calls Tryz.prog 67 #[Ac a,Ac b] w λe w'=>e=.returned (.bool (decide (a<b)))∧Below w.heap.size w w':=by
 unfold Ac;have L:Below w.heap.size w ((w.alloc (.cells (AG a).toArray 39)).alloc (.cells (AG b).toArray 39)):=((Below.refl _ _).alloc (QM _) _).alloc (by simp) _;have D:=AJ w (.cells (AG a).toArray 39);have A:=AJ (w.alloc (.cells (AG a).toArray 39)) (.cells (AG b).toArray 39);have J:((w.alloc (.cells (AG a).toArray 39)).alloc (.cells (AG b).toArray 39)).heap[w.heap.size]?=some (.cells (AG a).toArray 39 (0,0)):=by
  rw[Lib.alloc_old _ _ _ (by simp)];exact D
 rw[show (w.alloc (.cells (AG a).toArray 39)).heap.size=w.heap.size+1 by simp]at A;have B:=QA L;have T:=QA J;have R:=QA A;have V:=QA ha;have E:=QA hb;clear L D J A ha hb;go_enter Tryz.func67,Tryz.ntmps67;go_wp2_with fail;obtain⟨P,H⟩:∃x,(w.alloc (.cells (AG a).toArray 39)).alloc (.cells (AG b).toArray 39)=x:=⟨_,rfl⟩
 rw[H]at B T R ⊢;clear H
 go_loopg [5] 32 (λk s5 wr=>∃j:Nat,j≤32∧k=32-j∧s5=.int .i64 (j:Nat)∧a.take j=b.take j∧∃n,wr=P.drewN n)
 case atStart=>exact⟨0,ZS _,rfl,rfl,by simp,0,rfl⟩
 case round =>
  obtain⟨j,hj,S,rfl,G,nd,rfl⟩:=hrel;have Y:=QA S;have C:=QA G;clear S G;have X:(0:Int)≤(j:Int):=Int.natCast_nonneg _;by_cases hjn:j<32
  ·have K:(j:Int)<32:=by omega
   obtain⟨x,D⟩:∃x,a[j]?=some x:=⟨_,ZG (by have:=V.out;omega)⟩
   obtain⟨y,A⟩:∃y,b[j]?=some y:=⟨_,ZG (by have:=E.out;omega)⟩
   have Z:P.cell? ⟨w.heap.size,j,none⟩=some (.int .u8 (x.toNat:Int)):=AA T.out j _ (by simpa [AG] using ⟨x,D,rfl⟩);have c2:P.cell? ⟨w.heap.size+1,j,none⟩=some (.int .u8 (y.toNat:Int)):=AA R.out j _ (by simpa [AG] using ⟨y,A,rfl⟩);have F:=QA (λI=>LA j C.out D A I);have N:=QA D;have Q:=QA A;clear D A;by_cases hxy:x=y
   ·subst hxy;go_wp2_with fail;refine Ab [] (by kernel_rfl) (by kernel_rfl) ?_;simp only[BZ,QF,QN,QE,QL,Nat.sub_zero,Nat.reduceSub,QW]
    repeat (go_big_quiet_step (fail))
    refine wpQuiet_nil ?_;rintro _ ⟨nq,rfl⟩;go_wp2_with fail;go_roundg (32-(j+1))
    case measure=>rw[Y.out];omega
    case rel=>exact⟨j+1,by omega,rfl,by simp,by rw[List.take_add_one,List.take_add_one,C.out,N.out,Q.out],nd+nq,by first|rfl|(simp[World.drewN];omega)⟩
   ·have o:(x.toNat:Int)≠(y.toNat:Int):=λe=>hxy (UInt8.toNat_inj.1 (Int.ofNat_inj.1 e))
    have I:((x.toNat:Int) != (y.toNat:Int))=true:=by rw[bne_iff_ne];exact o
    have U:(x.toNat != y.toNat)=true:=by rw[bne_iff_ne];exact λe=>o (by rw[e])
    have M:Hid (decide (a<b)=decide ((x.toNat:Int)<(y.toNat:Int))):=QA (by
     have:=F.out hxy;rw[UInt8.lt_iff_toNat_lt]at this;exact decide_eq_decide.2 (this.trans Int.ofNat_lt.symm))
    have O:Hid (decide (a<b)=decide (x.toNat<y.toNat)):=QA (by
     have:=F.out hxy;rw[UInt8.lt_iff_toNat_lt]at this;exact decide_eq_decide.2 this)
    clear o;go_wp2_with fail;refine Ab [] (by kernel_rfl) (by kernel_rfl) ?_;simp only[BZ,QF,QN,QE,QL,Nat.sub_zero,Nat.reduceSub,QW]
    repeat (go_big_quiet_step (fail))
    refine wpQuiet_nil ?_;rintro _ ⟨nq,rfl⟩;go_wp2_with fail;refine Ab [] (by kernel_rfl) (by kernel_rfl) ?_;simp only[BZ,QF,QN,QE,QL,Nat.sub_zero,Nat.reduceSub,QW]
    repeat (go_big_quiet_step (fail))
    refine wpQuiet_nil ?_;rintro _ ⟨np,rfl⟩;go_wp2_with fail;go_ret;refine⟨?_,B.out.trans (Below.drewN (Below.drewN (Below.drewN (Below.refl _ _) _) _) _)⟩
    first|(rw[O.out];rfl)|(rw[M.out];rfl)
  ·have K:(32:Int)≤(j:Int):=by omega
   have M:Hid (decide (a<b)=false):=by
    have W:=C.out;rw[List.take_of_length_le (by have:=V.out;omega),List.take_of_length_le (by have:=E.out;omega)]at W;rw[W];exact QA (decide_eq_false (List.lt_irrefl _))
   go_wp2_with fail;go_ret;exact⟨by rw[M.out];rfl,B.out.trans (Below.drewN (Below.refl _ _) _)⟩
/-! ### Change -/
namespace Sto
def fin (o:Op) (out:Ents) (done:Bool) (rest:Ents):Ents:=if done then out++A5 rest o.1 else out++CG o (A5 rest o.1)
theorem fin_start (o:Op) (E:Ents):fin o [] (o.2.1==0) E=chg E o:=by
 unfold fin chg;by_cases h:o.2.1=0
 ·simp[h]
 ·simp[h]
theorem Ii {x:Op} {k:List UInt8} (h:x.1=k) (r:Ents):A5 (x::r) k=A5 r k:=by
 unfold A5;rw[List.filter_cons_of_neg (by simp[h])]
theorem Dh {x:Op} {k:List UInt8} (h:x.1≠k) (r:Ents):A5 (x::r) k=x::A5 r k:=by
 unfold A5;rw[List.filter_cons_of_pos (by simp[h])]
theorem fin_skip {o x:Op} (h:x.1=o.1) (out:Ents) (d:Bool) (r:Ents):fin o out d (x::r)=fin o out d r:=by unfold fin;rw[Ii h]
theorem fin_done {o x:Op} (h:x.1≠o.1) (out:Ents) (r:Ents):fin o out true (x::r)=fin o (out++[x]) true r:=by unfold fin;rw[Dh h];simp
theorem fin_here {o x:Op} (h:x.1≠o.1) (hl:o.1<x.1) (out:Ents) (r:Ents):fin o out false (x::r)=fin o (out++[o]++[x]) true r:=by unfold fin;rw[Dh h,CG,if_pos hl];simp
theorem fin_past {o x:Op} (h:x.1≠o.1) (hl:¬o.1<x.1) (out:Ents) (r:Ents):fin o out false (x::r)=fin o (out++[x]) false r:=by unfold fin;rw[Dh h,CG,if_neg hl];simp
theorem fin_end1 (o:Op) (out:Ents):fin o out true []=out:=by unfold fin A5;simp
theorem fin_end0 (o:Op) (out:Ents):fin o out false []=out++[o]:=by unfold fin A5 CG;simp
end Sto
theorem Ed {k:List UInt8} (hk:k.length=32):(Ac k).formed Tryz.prog 39=true:=by
 have o:Tryz.prog.cellsOf 39=32:=by kernel_rfl
 simp[Ac,Value.formed,Tryz.underlying39,o,AG,hk]
theorem GZ (a b:List UInt8) (ha:a.length=32) (hb:b.length=32) (w:World):(Op.equalIn 10000 39 (Ac a) (Ac b)).run Tryz.prog w=.ok (decide (a=b)) w:=by
 obtain⟨r,A,o⟩:=run_equalIn_deep (P:=Tryz.prog) 9998 2 39 (by kernel_rfl) w 2 2 (Ac a) (Ac b) _ _ (Ed ha) (Ed hb) (by show Tryz.prog.keyLits 2 _ (AG a).toArray.toList=_;rw[List.toList_toArray];exact Cc 0 a ha) (by show Tryz.prog.keyLits 2 _ (AG b).toArray.toList=_;rw[List.toList_toArray];exact Cc 0 b hb);refine Eq.trans (b:=.ok r w) A ?_
 congr 1
 rw[Bool.eq_iff_iff,o,decide_eq_true_iff];exact⟨CK,λe=>by rw[e]⟩
theorem KU (a b:List UInt8) (ha:a.length=32) (hb:b.length=32) (w:World):(binOp .eql 39 (Ac a) (Ac b)).run Tryz.prog w=.ok (.bool (decide (a=b))) w:=by
 show (binOp .eql 39 (.agg _) (.agg _)).run Tryz.prog w=_;rw[run_eql_struct,show (Op.equalIn 10000 39 (.agg (AG a).toArray) (.agg (AG b).toArray)).run Tryz.prog w=_ from GZ a b ha hb w];rfl
theorem I6 (op:BinOp) (x y:Operand) (a b:List UInt8) (w:World):(eqGuard op 39 x y (Ac a) (Ac b)).run Tryz.prog w=.ok () w:=by
 have h:Tryz.prog.eqGuardType Tryz.prog.depth 39=false:=by kernel_rfl
 unfold eqGuard;cases op<;>simp[Ac,h]
theorem Bl {ops:Array Oper} {S:World→Prop} {op:Oper} {a:Act} (hw:Region.wanted op (yielded ops a.tmps)=true) (x:Operand) (ho:op.op=.load 39 x) (b o:Nat) (hx:a.eval x=.pointer (some ⟨b,o,none⟩)) (k:List UInt8) (hk:k.length=32)
  (hS:∀w,S w→w.rangeAt b o (AG k)):YieldsIf Tryz.prog ops S op (Ac k) a :=
 yieldsIf_load_mid hw _ x ho b o hx (AG k) _ hS Tryz.underlying39 rfl (by rw[AU,hk];kernel_rfl)
theorem K0 {w:World} {g off:Nat} {o:Sto.Op} (h:w.rangeAt g off (AO o)):w.rangeAt g off (AG o.1):=λj u hj=>h j u (Du _ hj)
theorem Gh (v:Value) (E:Sto.Ents) (o:Sto.Op) (w:World) (h:BW w (λ_=>True) v E) (ho:ROk o) (hl:E.length≤1000000) :
  Calls Tryz.prog 42 #[v,.agg (AO o).toArray] w λe w'=>∃v',e=.returned v'∧B7 w' w.heap.size v' (Sto.chg E o)∧Below w.heap.size w w':=by
 obtain⟨va,vc,rfl⟩:=h.form;have ac:Below w.heap.size w (w.alloc (.cells (AO o).toArray 82)):=(Below.refl _ _).alloc (QM _) _;have ab:=AJ w (.cells (AO o).toArray 82);have H:=QA (h.mv (F':=λ_=>True) (MV.below ac));have HO:=QA ho;have K:=QA ho.key;have aC:(w.alloc (.cells (AO o).toArray 82)).cell? ⟨w.heap.size,32,none⟩=some (.int .i64 o.2.1):=AA ab 32 _ (by simpa using DZ ho.key);obtain⟨F,aa⟩:∃x,w.alloc (.cells (AO o).toArray 82)=x:=⟨_,rfl⟩
 have au:F.heap.size=w.heap.size+1:=by rw[← aa];simp
 rw[aa]at ac ab H;have am:Hid (∀y,Below F.heap.size F y→y.rangeAt w.heap.size 0 (AO o)):=QA λy hy j u hj=>by
  rw[Nat.zero_add];exact AA ((hy.block _ (by omega)).trans ab) j u (by simpa using hj)
 have ah:=QA ac;have az:=QA au;have ao:=QA aa;clear h ho ac ab aa au;go_enter Tryz.func42,Tryz.ntmps42;go_wp2_with fail;rw[ao.out];clear ao aC
 go_loopg [5,6,13] E.length (λk s5 s6 s13 wr=>∃(j:Nat) (B:Sto.Ents) (d:Bool),j≤E.length∧k=E.length-j∧s13=.int .i64 (j:Nat)∧s6=.bool d∧B7 wr F.heap.size s5 B∧B.length≤j+d.toNat∧Sto.fin o B d (E.drop j)=Sto.chg E o∧Below F.heap.size F wr)
 case atStart=>exact⟨0,[],(o.2.1==0),ZS _,rfl,rfl,rfl,B7.nil _ _,ZS _,Sto.fin_start o E,Below.refl _ _⟩
 case round =>
  obtain⟨j,B,d,hj,hk,rfl,rfl,ag,ap,ad,hB⟩:=hrel;obtain⟨oa,oc,rfl⟩:=ag.form;have HK:=QA hk;have O:=QA hB;have P:=QA ag;have I:=QA ad;have HZ:=az.out;have aL:B.length≤j+1:=Nat.le_trans ap (Nat.add_le_add_left (Bool.toNat_le d) j);clear hk hB ag ad;have aO:(0:Int)≤(j:Int):=Int.natCast_nonneg _;by_cases hjn:j<E.length
  ·have aq:(j:Int)<(E.length:Int):=by omega
   obtain⟨x,hp⟩:∃p,E[j]?=some p:=⟨_,ZG hjn⟩
   obtain⟨an,g,D,rfl,W,aj⟩:=H.out.at hp;have Q:Hid (E.drop j=x::E.drop (j+1)):=QA (by
    obtain⟨h1,h2⟩:=List.getElem?_eq_some_iff.1 hp;rw[List.drop_eq_getElem_cons h1,h2])
   have G:=QA an;have T:Hid (∀y,Below F.heap.size F y→y.rangeAt g (D+j*34) (AO x)):=QA λy hy=>AY aj (hy.block g W)
   have S:=am;have R:Hid (∀y,Below F.heap.size F y→y.rangeAt g (D+j*34) (AG x.1)∧y.rangeAt w.heap.size 0 (AG o.1)):=QA λy hy=>⟨K0 (T.out y hy),K0 (S.out y hy)⟩
   clear hp an aj;go_wp2_with fail;refine AK (λw'=>w'.rangeAt g (D+j*34) (AG x.1)∧w'.rangeAt w.heap.size 0 (AG o.1)) 8 (by kernel_rfl) ?_;have C:=R.out wr.drew (Below.drew O.out);change Ad _ _ _ _ _ _ _ _ _ wr.drew;have aB:=I6 .eql;have aD:=KU x.1 o.1 G.out.key K.out;refine TK (i:=0) (v:=.slice (some ⟨g,D,none⟩) E.length vc) rfl (Or.inl ⟨by rfl,λw hSw=>by go_simp⟩) C ?_;simp only[Act.put,QD,QK,QI,QJ,QC,QH,QG];refine TK (i:=1) (v:=.int .i64 (j:Nat)) rfl (Or.inl ⟨by rfl,λw hSw=>by go_simp⟩) C ?_;simp only[Act.put,QD,QK,QI,QJ,QC,QH,QG];refine TK (i:=2) (v:=.pointer (some ⟨g,D+j*34,none⟩)) rfl (Or.inl ⟨by rfl,λw hSw=>by go_simp⟩) C ?_;simp only[Act.put,QD,QK,QI,QJ,QC,QH,QG];refine TK (i:=3) (v:=.pointer (some ⟨g,D+j*34,none⟩)) rfl (Or.inl ⟨by rfl,λw hSw=>by go_simp⟩) C ?_;simp only[Act.put,QD,QK,QI,QJ,QC,QH,QG];refine TK (i:=4) (v:=Ac x.1) rfl (Bl rfl _ rfl g (D+j*34) rfl x.1 G.out.key (λw hSw=>hSw.1)) C ?_;simp only[Act.put,QD,QK,QI,QJ,QC,QH,QG];refine TK (i:=5) (v:=.pointer (some ⟨w.heap.size,0,none⟩)) rfl (Or.inl ⟨by rfl,λw hSw=>by go_simp⟩) C ?_;simp only[Act.put,QD,QK,QI,QJ,QC,QH,QG];refine TK (i:=6) (v:=Ac o.1) rfl (Bl rfl _ rfl w.heap.size 0 rfl o.1 K.out (λw hSw=>hSw.2)) C ?_;simp only[Act.put,QD,QK,QI,QJ,QC,QH,QG];refine TK (i:=7) (v:=.bool (decide (x.1=o.1))) rfl (Or.inl ⟨by rfl,λw hSw=>by go_simp⟩) C ?_;simp only[Act.put,QD,QK,QI,QJ,QC,QH,QG];refine AN (by kernel_rfl) ?_ _;clear aB aD;by_cases hxo:x.1=o.1
   ·have U:=QA hxo;rw[decide_eq_true hxo];clear hxo;go_wp2_with fail;go_roundg (E.length-(j+1))
    case measure=>rw[HK.out];omega
    case rel=>exact⟨j+1,B,d,by omega,rfl,by simp,rfl,P.out.keep (Below.drew (Below.refl _ _)),by omega,by rw[← I.out,Q.out,Sto.fin_skip U.out],Below.drew O.out⟩
   ·have U:=QA hxo;rw[decide_eq_false hxo];clear hxo;go_wp2_with fail;refine AK (λw'=>w'.rangeAt g (D+j*34) (AG x.1)∧w'.rangeAt w.heap.size 0 (AG o.1)) 12 (by kernel_rfl) ?_;have C:=R.out wr.drew.drew (Below.drew (Below.drew O.out));change Ad _ _ _ _ _ _ _ _ _ wr.drew.drew;cases d with
    | true =>
     refine TK (i:=0) (v:=.bool true) rfl (Or.inl ⟨by rfl,λw hSw=>by go_simp⟩) C ?_;simp only[Act.put,QD,QK,QI,QJ,QC,QH,QG];refine TK (i:=1) (v:=.bool false) rfl (Or.inl ⟨by rfl,λw hSw=>by go_simp⟩) C ?_;simp only[Act.put,QD,QK,QI,QJ,QC,QH,QG];refine TK (i:=2) (v:=.bool false) rfl (Or.inl ⟨by rfl,λw hSw=>by go_simp⟩) C ?_;simp only[Act.put,QD,QK,QI,QJ,QC,QH,QG];refine TK (i:=3) (v:=undef) rfl (Or.inr ⟨by rfl,rfl⟩) C ?_;simp only[Act.put,QD,QK,QI,QJ,QC,QH,QG];refine TK (i:=4) (v:=undef) rfl (Or.inr ⟨by rfl,rfl⟩) C ?_;simp only[Act.put,QD,QK,QI,QJ,QC,QH,QG];refine TK (i:=5) (v:=undef) rfl (Or.inr ⟨by rfl,rfl⟩) C ?_;simp only[Act.put,QD,QK,QI,QJ,QC,QH,QG];refine TK (i:=6) (v:=undef) rfl (Or.inr ⟨by rfl,rfl⟩) C ?_;simp only[Act.put,QD,QK,QI,QJ,QC,QH,QG];refine TK (i:=7) (v:=undef) rfl (Or.inr ⟨by rfl,rfl⟩) C ?_;simp only[Act.put,QD,QK,QI,QJ,QC,QH,QG];refine TK (i:=8) (v:=undef) rfl (Or.inr ⟨by rfl,rfl⟩) C ?_;simp only[Act.put,QD,QK,QI,QJ,QC,QH,QG];refine TK (i:=9) (v:=undef) rfl (Or.inr ⟨by rfl,rfl⟩) C ?_;simp only[Act.put,QD,QK,QI,QJ,QC,QH,QG];refine TK (i:=10) (v:=undef) rfl (Or.inr ⟨by rfl,rfl⟩) C ?_;simp only[Act.put,QD,QK,QI,QJ,QC,QH,QG];refine TK (i:=11) (v:=.bool false) rfl (Or.inl ⟨by rfl,λw hSw=>by go_simp⟩) C ?_;simp only[Act.put,QD,QK,QI,QJ,QC,QH,QG];refine AN (by kernel_rfl) ?_ _;have af:Hid (Below wr.heap.size wr wr.drew.drew):=QA (Below.drew (Below.drew (Below.refl _ _)));have A:Hid (Below F.heap.size F wr.drew.drew):=QA (O.out.trans (af.out.mono O.out.size));have L:=QA (P.out.keep af.out);obtain⟨X,hX⟩:∃q,wr.drew.drew=q:=⟨_,rfl⟩
     rw[hX]at af A L ⊢;clear hX C;go_wp2_with (first|(guard_target=wpList _ _ _ ({ dst:=_,op:=.load 82 _,type:=_,pos:=_,after:=_,guard:=none }::_) _ _;refine Az rfl _ rfl g (D+j*34) x G.out.key rfl (T.out _ A.out) ?_)|(guard_target=wpList _ _ _ ({ dst:=_,op:=.buildSlice 33 _ _,type:=_,pos:=_,after:=_,guard:=_ }::_) _ _;refine CS rfl _ rfl x G.out.key rfl ?_)|(at_builtin;refine Am rfl _ _ rfl F.heap.size (.slice oa B.length oc) (B) rfl ((L).out.keep ((Below.refl _ _).alloc (QM _) _)) x G.out (X).heap.size 0 1 1 rfl rfl (λi u hi=>by rw[Nat.zero_add];exact AA (AJ X _) i u (by simpa using hi)) (by first|omega|(simp;omega)) (by have:=(A).out.size;simp;omega) ?_;intro v8 w8 ho8 hg8 hl8;obtain⟨a8,c8,N⟩:=ho8.form;subst N;simp only[QS,List.length_singleton]at ho8;have J:=QA ho8;have M:Hid (Below F.heap.size F w8):=QA (((A).out.alloc (A).out.size _).grown hg8 (by have:=(A).out.size;simp;omega) (λg W=>((L).out.row.lt g W).1));clear ho8 hg8 hl8)|fail);go_roundg (E.length-(j+1))
     case measure=>rw[HK.out];omega
     case rel=>exact⟨j+1,B++[x],true,by omega,rfl,by simp,rfl,J.out,by simp;omega,by rw[← I.out,Q.out,Sto.fin_done U.out],M.out⟩
    | false =>
     have aM:B.length≤j:=ap;refine TK (i:=0) (v:=.bool false) rfl (Or.inl ⟨by rfl,λw hSw=>by go_simp⟩) C ?_;simp only[Act.put,QD,QK,QI,QJ,QC,QH,QG];refine TK (i:=1) (v:=.bool true) rfl (Or.inl ⟨by rfl,λw hSw=>by go_simp⟩) C ?_;simp only[Act.put,QD,QK,QI,QJ,QC,QH,QG];refine TK (i:=2) (v:=.bool true) rfl (Or.inl ⟨by rfl,λw hSw=>by go_simp⟩) C ?_;simp only[Act.put,QD,QK,QI,QJ,QC,QH,QG];refine TK (i:=3) (v:=.pointer (some ⟨w.heap.size,0,none⟩)) rfl (Or.inl ⟨by rfl,λw hSw=>by go_simp⟩) C ?_;simp only[Act.put,QD,QK,QI,QJ,QC,QH,QG];refine TK (i:=4) (v:=Ac o.1) rfl (Bl rfl _ rfl w.heap.size 0 rfl o.1 K.out (λw hSw=>hSw.2)) C ?_;simp only[Act.put,QD,QK,QI,QJ,QC,QH,QG];refine TK (i:=5) (v:=.slice (some ⟨g,D,none⟩) E.length vc) rfl (Or.inl ⟨by rfl,λw hSw=>by go_simp⟩) C ?_;simp only[Act.put,QD,QK,QI,QJ,QC,QH,QG];refine TK (i:=6) (v:=.int .i64 (j:Nat)) rfl (Or.inl ⟨by rfl,λw hSw=>by go_simp⟩) C ?_;simp only[Act.put,QD,QK,QI,QJ,QC,QH,QG];refine TK (i:=7) (v:=.pointer (some ⟨g,D+j*34,none⟩)) rfl (Or.inl ⟨by rfl,λw hSw=>by go_simp⟩) C ?_;simp only[Act.put,QD,QK,QI,QJ,QC,QH,QG];refine TK (i:=8) (v:=.pointer (some ⟨g,D+j*34,none⟩)) rfl (Or.inl ⟨by rfl,λw hSw=>by go_simp⟩) C ?_;simp only[Act.put,QD,QK,QI,QJ,QC,QH,QG];refine TK (i:=9) (v:=Ac x.1) rfl (Bl rfl _ rfl g (D+j*34) rfl x.1 G.out.key (λw hSw=>hSw.1)) C ?_;simp only[Act.put,QD,QK,QI,QJ,QC,QH,QG];refine TO (i:=10) ?_;refine AB (by decide) (λK10 HK10=>?_);simp only[QE,QL,QF,QN];go_wp2_with fail;refine (Im o.1 x.1 _ K.out G.out.key).mono ?_;rintro e w4 ⟨rfl,hb4⟩;have Y:Below wr.heap.size wr w4:=(Below.drew (Below.drew (Below.refl _ wr))).trans hb4;have C:=R.out w4 (O.out.trans (Y.mono O.out.size));have ar:=QA Y;clear hb4 Y;go_wp2;refine HK10.out _ _ ⟨λ_=>C,?_⟩;clear HK10;refine TK (i:=11) (v:=.bool (decide (o.1<x.1))) rfl (Or.inl ⟨by rfl,λw hSw=>by go_simp⟩) C ?_;simp only[Act.put,QD,QK,QI,QJ,QC,QH,QG];refine AN (by kernel_rfl) ?_ _;have A:Hid (Below F.heap.size F w4):=QA (O.out.trans (ar.out.mono O.out.size));have L:=QA (P.out.keep ar.out);clear C;by_cases hlt:o.1<x.1
     ·have ae:=QA hlt;rw[decide_eq_true hlt];clear hlt;go_wp2_with (first|(guard_target=wpList _ _ _ ({ dst:=_,op:=.load 82 _,type:=_,pos:=_,after:=_,guard:=none }::_) _ _;refine Az rfl _ rfl w.heap.size 0 o K.out rfl (S.out _ A.out) ?_)|(guard_target=wpList _ _ _ ({ dst:=_,op:=.load 82 _,type:=_,pos:=_,after:=_,guard:=none }::_) _ _;refine Az rfl _ rfl g (D+j*34) x G.out.key rfl (T.out _ V.out) ?_)|(guard_target=wpList _ _ _ ({ dst:=_,op:=.buildSlice 33 _ _,type:=_,pos:=_,after:=_,guard:=_ }::_) _ _;first|refine CS rfl _ rfl o K.out rfl ?_|refine CS rfl _ rfl x G.out.key rfl ?_)|(at_builtin;refine Am rfl _ _ rfl F.heap.size (.slice oa B.length oc) (B) rfl ((L).out.keep ((Below.refl _ _).alloc (QM _) _)) o HO.out (w4).heap.size 0 1 1 rfl rfl (λi u hi=>by rw[Nat.zero_add];exact AA (AJ w4 _) i u (by simpa using hi)) (by first|omega|(simp;omega)) (by have:=(A).out.size;simp;omega) ?_;intro v7 w7 ho7 hg7 hl7;obtain⟨a7,c7,aE⟩:=ho7.form;subst aE;simp only[QS,List.length_singleton]at ho7;have al:=QA ho7;have V:Hid (Below F.heap.size F w7):=QA (((A).out.alloc (A).out.size _).grown hg7 (by have:=(A).out.size;simp;omega) (λg W=>((L).out.row.lt g W).1));clear ho7 hg7 hl7)|(at_builtin;refine Am rfl _ _ rfl F.heap.size (.slice a7 (B.length+1) c7) ((B++[o])) rfl ((al).out.keep ((Below.refl _ _).alloc (QM _) _)) x G.out (w7).heap.size 0 1 1 rfl rfl (λi u hi=>by rw[Nat.zero_add];exact AA (AJ w7 _) i u (by simpa using hi)) (by first|omega|(simp;omega)) (by have:=(V).out.size;simp;omega) ?_;intro v8 w8 ho8 hg8 hl8;obtain⟨a8,c8,N⟩:=ho8.form;subst N;simp only[QS,List.length_singleton]at ho8;have J:=QA ho8;have M:Hid (Below F.heap.size F w8):=QA (((V).out.alloc (V).out.size _).grown hg8 (by have:=(V).out.size;simp;omega) (λg W=>((al).out.row.lt g W).1));clear ho8 hg8 hl8)|fail);go_roundg (E.length-(j+1))
      case measure=>rw[HK.out];omega
      case rel=>exact⟨j+1,B++[o]++[x],true,by omega,rfl,by simp,rfl,J.out,by simp;omega,by rw[← I.out,Q.out,Sto.fin_here U.out ae.out],M.out⟩
     ·have ae:=QA hlt;rw[decide_eq_false hlt];clear hlt;go_wp2_with (first|(guard_target=wpList _ _ _ ({ dst:=_,op:=.load 82 _,type:=_,pos:=_,after:=_,guard:=none }::_) _ _;refine Az rfl _ rfl g (D+j*34) x G.out.key rfl (T.out _ A.out) ?_)|(guard_target=wpList _ _ _ ({ dst:=_,op:=.buildSlice 33 _ _,type:=_,pos:=_,after:=_,guard:=_ }::_) _ _;refine CS rfl _ rfl x G.out.key rfl ?_)|(at_builtin;refine Am rfl _ _ rfl F.heap.size (.slice oa B.length oc) (B) rfl ((L).out.keep ((Below.refl _ _).alloc (QM _) _)) x G.out (w4).heap.size 0 1 1 rfl rfl (λi u hi=>by rw[Nat.zero_add];exact AA (AJ w4 _) i u (by simpa using hi)) (by first|omega|(simp;omega)) (by have:=(A).out.size;simp;omega) ?_;intro v8 w8 ho8 hg8 hl8;obtain⟨a8,c8,N⟩:=ho8.form;subst N;simp only[QS,List.length_singleton]at ho8;have J:=QA ho8;have M:Hid (Below F.heap.size F w8):=QA (((A).out.alloc (A).out.size _).grown hg8 (by have:=(A).out.size;simp;omega) (λg W=>((L).out.row.lt g W).1));clear ho8 hg8 hl8)|fail);go_roundg (E.length-(j+1))
      case measure=>rw[HK.out];omega
      case rel=>exact⟨j+1,B++[x],false,by omega,rfl,by simp,rfl,J.out,by simp;omega,by rw[← I.out,Q.out,Sto.fin_past U.out ae.out],M.out⟩
  ·have aq:(E.length:Int)≤(j:Int):=by omega
   have Q:Hid (E.drop j=[]):=QA (List.drop_eq_nil_of_le (by omega));have Z:=ah.out.size;cases d with
   | true =>
    go_wp2_with fail;refine bodyPost_ret (v:=.slice oa B.length oc) (by simp[results,Tryz.results42,go_sem]) rfl ?_;have h1:=I.out;rw[Q.out,Sto.fin_end1]at h1;refine⟨_,rfl,?_,ah.out.trans (O.out.mono Z)⟩;rw[← h1];exact⟨ownsRow_base_a P.out.row Z,P.out.ok⟩
   | false =>
    have S:=am;go_wp2_with (first|(guard_target=wpList _ _ _ ({ dst:=_,op:=.load 82 _,type:=_,pos:=_,after:=_,guard:=none }::_) _ _;refine Az rfl _ rfl w.heap.size 0 o K.out rfl (S.out _ O.out) ?_)|(guard_target=wpList _ _ _ ({ dst:=_,op:=.buildSlice 33 _ _,type:=_,pos:=_,after:=_,guard:=_ }::_) _ _;refine CS rfl _ rfl o K.out rfl ?_)|(at_builtin;refine Am rfl _ _ rfl F.heap.size (.slice oa B.length oc) (B) rfl ((P).out.keep ((Below.refl _ _).alloc (QM _) _)) o HO.out (wr).heap.size 0 1 1 rfl rfl (λi u hi=>by rw[Nat.zero_add];exact AA (AJ wr _) i u (by simpa using hi)) (by first|omega|(simp;omega)) (by have:=(O).out.size;simp;omega) ?_;intro v8 w8 ho8 hg8 hl8;obtain⟨a8,c8,N⟩:=ho8.form;subst N;simp only[QS,List.length_singleton]at ho8;have J:=QA ho8;have M:Hid (Below F.heap.size F w8):=QA (((O).out.alloc (O).out.size _).grown hg8 (by have:=(O).out.size;simp;omega) (λg W=>((P).out.row.lt g W).1));clear ho8 hg8 hl8)|fail);refine bodyPost_ret (v:=.slice a8 (B.length+1) c8) (by simp[results,Tryz.results42,go_sem]) rfl ?_;have h1:=I.out;rw[Q.out,Sto.fin_end0]at h1;refine⟨_,rfl,?_,ah.out.trans (M.out.mono Z)⟩;rw[← h1];exact⟨ownsRow_base_a J.out.row Z,J.out.ok⟩
open Go.Maps Go.WideMaps
namespace Sto
theorem Ha (x:Op):∀l:Ents,(CG x l).length=l.length+1
 | []=>rfl
 | y::r=>by
  unfold CG;split
  ·rfl
  ·rw[QO,Ha x r,QO]
theorem KF (l:Ents) (k:List UInt8):(A5 l k).length≤l.length:=List.length_filter_le _ _
theorem KN (E:Ents) (o:Op):(chg E o).length≤E.length+1:=by
 unfold chg;have:=KF E o.1;split
 ·omega
 ·rw[Ha];omega
theorem chgs_len:∀(ops:List Op) (E:Ents),(chgs E ops).length≤E.length+ops.length
 | [],E=>QM _
 | o::r,E=>by
  have C:=chgs_len r (chg E o);have B:=KN E o;have A:chgs E (o::r)=chgs (chg E o) r:=rfl;rw[A,QO];omega
theorem chgs_take {ops:List Op} {E:Ents} {j:Nat} {o:Op} (h:ops[j]?=some o):chgs E (ops.take (j+1))=chg (chgs E (ops.take j)) o:=by
 rw[List.take_add_one,h,chgs_app];rfl
end Sto
theorem GB (v u:Value) (E D:Sto.Ents) (w:World) (h:BW w (λ_=>True) v E) (hd:BW w (λ_=>True) u D) (hl:E.length≤100000) (hm:D.length≤100000) :
  Calls Tryz.prog 20 #[v,u] w λe w'=>∃v',e=.returned v'∧BW w' (λ_=>True) v' (Sto.chgs E D)∧Below w.heap.size w w':=by
 obtain⟨va,vc,rfl⟩:=h.form;obtain⟨ua,uc,rfl⟩:=hd.form;have H:=QA h;have Z:=QA hd;clear h hd;go_enter Tryz.func20,Tryz.ntmps20;go_wp2_with fail
 go_loopg [0,8] D.length (λk s0 s8 wr=>∃j:Nat,j≤D.length∧k=D.length-j∧s8=.int .i64 (j:Nat)∧BW wr (λ_=>True) s0 (Sto.chgs E (D.take j))∧Below w.heap.size w wr)
 case atStart=>exact⟨0,ZS _,rfl,rfl,H.out,Below.refl _ _⟩
 case round =>
  obtain⟨j,hj,W,rfl,R,X⟩:=hrel;obtain⟨ra,rc,rfl⟩:=R.form;have HK:=QA W;have J:=QA X;have U:=QA R;clear W X R;have Y:(0:Int)≤(j:Int):=Int.natCast_nonneg _;obtain⟨L,I⟩:∃L,Sto.chgs E (D.take j)=L:=⟨_,rfl⟩
  have K:L.length≤1000000:=by
   have T:=Sto.chgs_len (D.take j) E;have h2:(D.take j).length≤j:=List.length_take_le _ _;rw[I]at T;omega
  rw[I]at U ⊢;have V:=QA I;clear I;by_cases hjn:j<D.length
  ·have C:(j:Int)<(D.length:Int):=by omega
   obtain⟨o,Q⟩:∃p,D[j]?=some p:=⟨_,ZG hjn⟩
   obtain⟨B,g,P,rfl,hg,G⟩:=(Z.out.mv (F':=λ_=>True) (MV.below J.out)).at Q;have O:Hid (Sto.chgs E (D.take (j+1))=Sto.chg L o):=QA (by rw[Sto.chgs_take Q,V.out]);have A:=QA B;have N:=QA G;clear Q B G;go_wp2_with (first|(guard_target=wpList _ _ _ ({ dst:=_,op:=.load 82 _,type:=_,pos:=_,after:=_,guard:=none }::_) _ _;refine Az rfl _ rfl g (P+j*34) o A.out.key rfl N.out ?_)|fail);refine (Gh _ L o wr U.out A.out K).mono ?_;rintro e w2 ⟨v',rfl,ho2,hb2⟩;obtain⟨oa,oc,rfl⟩:=ho2.form;have S:=QA (ho2.rosF (F:=λ_=>True) (λ_ _=>trivial));have M:=QA (J.out.trans (hb2.mono J.out.size));clear ho2 hb2;go_wp2_with fail;go_roundg (D.length-(j+1))
   case measure=>rw[HK.out];omega
   case rel=>exact⟨j+1,by omega,rfl,by simp,by rw[O.out];exact S.out,M.out⟩
  ·have C:(D.length:Int)≤(j:Int):=by omega
   have HT:Hid (L=Sto.chgs E D):=QA (by rw[← V.out,List.take_of_length_le (by omega)]);go_wp2_with fail;refine bodyPost_ret (v:=.slice ra L.length rc) (by simp[results,Tryz.results20,go_sem]) rfl ?_;refine⟨_,rfl,?_,J.out⟩;have T:=U.out;rw[← HT.out];exact T
theorem Hz (r B mb:Nat) (ver:Int) (sv:Value) (v:Value) (ops:Sto.ME) (w:World) (F:Nat→Prop) (hroot:w.heap[r]?=some (.cells (AF ver sv mb B false) 51 (0,0)))
  (ho:Au w F v ops) (hol:ops.length≤1000000000) (hbl:∀p∈ops,p.1.2.2.length≤1000000000) (hc:Sto.chk (Sto.opsOf ops)≠0) :
  Calls Tryz.prog 13 #[.pointer (some ⟨r,0,none⟩),v] w λe w'=>e=.returned (.int .i64 (Sto.chk (Sto.opsOf ops)))∧Below w.heap.size w w':=by
 obtain⟨M,L,rfl⟩:=ho.form;have D:=QA ho;have H:=rc0 hroot;have E:=rc1 hroot;have J:=rc2 hroot;have K:=rc3 hroot;have G:=rc4 hroot;clear ho hroot;go_enter Tryz.func13,Tryz.ntmps13;go_wp2_with fail;refine (C6 _ ops w _ D.out hol (λp hp=>by have:=hbl p hp;omega)).mono ?_;rintro e w1 ⟨rfl,hb1⟩;have C:=QA hb1;clear hb1 H E J K G;obtain⟨c,o⟩:∃c,Sto.chk (Sto.opsOf ops)=c:=⟨_,rfl⟩
 rw[o]at hc ⊢;have A:=QA o;clear o;have I:(c != 0)=true:=bne_iff_ne.2 hc;go_wp2_with fail;refine bodyPost_ret (v:=.int .i64 c) (by simp[results,Tryz.results13,go_sem]) rfl ?_;exact⟨by rw[A.out],C.out⟩
end Go.Proofs.YtjldahcckmmenaaGreatDoor
