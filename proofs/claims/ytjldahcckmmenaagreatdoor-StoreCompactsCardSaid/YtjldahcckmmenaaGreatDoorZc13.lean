/-
  The store: check, walked. The store: slices.Clone of bytes; changes, walked. The store: a change's bytes, walked. The store: Get, active, met, Segs, ReadOnly, walked.
-/
import Derived.Test.YtjldahcckmmenaaGreatDoorZc12
import Derived.Deep.LoopGhost
import Derived.Test.YtjldahcckmmenaaGreatDoorZc6
import Derived.Maps.Own
import Derived.Maps.OwnSet
import Derived.Test.YtjldahcckmmenaaGreatDoorZc9
open Array renaming getInternal_eq_getElem → QD
open Go.Lib renaming hid → QA
open List renaming setIfInBounds_toArray → QC, drop_succ_cons → QE, take_succ_cons → QF, set_cons_succ → QG, set_cons_zero → QH, getElem_cons_zero → QI, getElem_cons_succ → QJ, getElem_toArray → QK, drop_zero → QL, take_zero → QN, getElem?_eq_getElem → ZG
open Nat renaming le_refl → QM, zero_le → ZS
namespace Go.Proofs.YtjldahcckmmenaaGreatDoor
set_option maxRecDepth 100000
set_option maxHeartbeats 4000000
set_option linter.unusedSimpArgs false
set_option linter.unusedVariables false
open Go Go.RowKit
open Go.Maps Go.WideMaps
namespace Sto
theorem IW (o:Op) (r:List Op):mass (o::r)=35+o.2.2.length+mass r:=by
 unfold mass;rw[List.map_cons,List.sum_cons]
theorem Gz (a b:List Op):mass (a++b)=mass a+mass b:=by
 unfold mass;rw[List.map_append,List.sum_append]
theorem mass_take {l:List Op} {j:Nat} {o:Op} (h:l[j]?=some o):mass (l.take (j+1))=mass (l.take j)+(35+o.2.2.length):=by
 rw[List.take_add_one,h,Gz];rfl
theorem mass_le (l:List Op) (j:Nat):mass (l.take j)≤mass l:=by
 have:=Gz (l.take j) (l.drop j);rw[List.take_append_drop]at this;omega
def opsOf (l:ME):List Op:=l.map (·.1)
theorem opsOf_len (l:ME):(opsOf l).length=l.length:=by unfold opsOf;rw[List.length_map]
theorem opsOf_get {l:ME} {i:Nat} {p:Op×Value} (h:l[i]?=some p):(opsOf l)[i]?=some p.1:=by unfold opsOf;rw[List.getElem?_map,h];rfl
theorem any_drop {l:List Op} {j:Nat} {o:Op} (h:l[j]?=some o):(l.drop j).any badK=(badK o||(l.drop (j+1)).any badK):=by
 obtain⟨A,rfl⟩:=List.getElem?_eq_some_iff.1 h;rw[List.drop_eq_getElem_cons A,List.any_cons]
end Sto
theorem Ex (v:Value) (l:Sto.ME) (w:World) (F:Nat→Prop) (h:BQ w F v l) (hl:l.length≤1000000000) (hb:∀p∈l,p.1.2.2.length≤1000000000000) :
  Calls Tryz.prog 30 #[v] w λe w'=>e=.returned (.int .i64 (Sto.chk (Sto.opsOf l)))∧Below w.heap.size w w':=by
 obtain⟨va,vc,rfl⟩:=h.form;have H:=QA h;clear h;have aq:=Sto.opsOf_len l;go_enter Tryz.func30,Tryz.ntmps30;by_cases h64:64<l.length
 ·have af:(64:Int)<(l.length:Int):=by omega
  go_wp2_with fail;go_ret;refine⟨?_,Below.refl _ _⟩;unfold Sto.chk;rw[if_pos (by omega)];rfl
 ·have af:(l.length:Int)≤64:=by omega
  go_wp2_with fail
  go_loopg [13] l.length (λk s13 wr=>∃j:Nat,j≤l.length∧k=l.length-j∧s13=.int .i64 (j:Nat)∧Below w.heap.size w wr∧((Sto.opsOf l).drop j).any Sto.badK=(Sto.opsOf l).any Sto.badK)
  case atStart=>exact⟨0,ZS _,rfl,rfl,Below.refl _ _,rfl⟩
  case round =>
   obtain⟨j,hj,hk,rfl,hB,T⟩:=hrel;have HK:=QA hk;have HB:=QA hB;have Q:=QA T;clear hk hB T;have aw:(0:Int)≤(j:Int):=Int.natCast_nonneg _;by_cases hjn:j<l.length
   ·have ag:(j:Int)<(l.length:Int):=by omega
    obtain⟨⟨o,pv⟩,U⟩:∃p,l[j]?=some p:=⟨_,ZG hjn⟩
    obtain⟨B,R,g,L,rfl,hg,D⟩:=(H.out.mv (MV.below HB.out)).at U;have J:=R.1;have I:=QA (Sto.any_drop (Sto.opsOf_get U));obtain⟨E,G,O,al⟩:=J.form;simp only at O B J D I;subst O;have K:=Aj.new wr o (.slice E o.2.2.length G);have aA:=K.cell (Bl B _);have an:=K.cell (Ao B _);have am:=QA K;have M:=QA J;have A:=QA B;clear K J B U R;have P:Sto.badK o=true→Sto.chk (Sto.opsOf l)=1:=λhb=>by
     unfold Sto.chk;rw[if_neg (by omega),if_pos (by rw[← Q.out,I.out,hb];rfl)]
    have ab:Sto.badK o=false→((Sto.opsOf l).drop (j+1)).any Sto.badK=(Sto.opsOf l).any Sto.badK:=λhb=>by rw[← Q.out,I.out,hb];rfl
    have N:=QA P;have W:=QA ab;clear P ab;have C:Hid (Below w.heap.size w (wr.alloc (.cells (AG o (.slice E o.2.2.length G)).toArray 43))):=QA (HB.out.alloc HB.out.size _);by_cases hk1:o.2.1<0
    ·go_wp2_with (first|(guard_target=wpList _ _ _ ({ dst:=_,op:=.load 43 _,type:=_,pos:=_,after:=_,guard:=none }::_) _ _;refine AO rfl _ rfl g (L+j*34) o (.slice E o.2.2.length G) A.out rfl D ?_)|(guard_target=wpList _ _ _ ({ dst:=_,op:=.store 43 _ _,type:=_,pos:=_,after:=_,guard:=none }::_) _ _;refine AV rfl _ _ rfl _ rfl o (.slice E o.2.2.length G) A.out M.out.one rfl rfl ?_)|fail);refine bodyPost_ret (v:=.int .i64 1) (by simp[results,Tryz.results30,go_sem]) rfl ?_;exact⟨by rw[N.out (by unfold Sto.badK;simp[hk1])],C.out⟩
    ·have ao:0≤o.2.1:=by omega
     by_cases hk2:9<o.2.1
     ·go_wp2_with (first|(guard_target=wpList _ _ _ ({ dst:=_,op:=.load 43 _,type:=_,pos:=_,after:=_,guard:=none }::_) _ _;refine AO rfl _ rfl g (L+j*34) o (.slice E o.2.2.length G) A.out rfl D ?_)|(guard_target=wpList _ _ _ ({ dst:=_,op:=.store 43 _ _,type:=_,pos:=_,after:=_,guard:=none }::_) _ _;refine AV rfl _ _ rfl _ rfl o (.slice E o.2.2.length G) A.out M.out.one rfl rfl ?_)|fail);refine bodyPost_ret (v:=.int .i64 1) (by simp[results,Tryz.results30,go_sem]) rfl ?_;exact⟨by rw[N.out (by unfold Sto.badK;simp[hk2])],C.out⟩
     ·have ar:o.2.1≤9:=by omega
      by_cases hk3:o.2.1=0
      ·have Z:(o.2.1==0)=true:=by simpa using hk3
       by_cases hk4:0<o.2.2.length
       ·have ad:(0:Int)<(o.2.2.length:Int):=by omega
        go_wp2_with (first|(guard_target=wpList _ _ _ ({ dst:=_,op:=.load 43 _,type:=_,pos:=_,after:=_,guard:=none }::_) _ _;refine AO rfl _ rfl g (L+j*34) o (.slice E o.2.2.length G) A.out rfl D ?_)|(guard_target=wpList _ _ _ ({ dst:=_,op:=.store 43 _ _,type:=_,pos:=_,after:=_,guard:=none }::_) _ _;refine AV rfl _ _ rfl _ rfl o (.slice E o.2.2.length G) A.out M.out.one rfl rfl ?_)|fail);refine bodyPost_ret (v:=.int .i64 1) (by simp[results,Tryz.results30,go_sem]) rfl ?_;exact⟨by rw[N.out (by unfold Sto.badK;simp[hk3,hk4])],C.out⟩
       ·have ad:(o.2.2.length:Int)≤0:=by omega
        go_wp2_with (first|(guard_target=wpList _ _ _ ({ dst:=_,op:=.load 43 _,type:=_,pos:=_,after:=_,guard:=none }::_) _ _;refine AO rfl _ rfl g (L+j*34) o (.slice E o.2.2.length G) A.out rfl D ?_)|(guard_target=wpList _ _ _ ({ dst:=_,op:=.store 43 _ _,type:=_,pos:=_,after:=_,guard:=none }::_) _ _;refine AV rfl _ _ rfl _ rfl o (.slice E o.2.2.length G) A.out M.out.one rfl rfl ?_)|fail);go_roundg (l.length-(j+1))
        case measure=>rw[HK.out];omega
        case rel=>exact⟨j+1,by omega,rfl,by simp,C.out,W.out (by unfold Sto.badK;simp only[Bool.or_eq_false_iff,Bool.and_eq_false_iff,decide_eq_false_iff_not];omega)⟩
      ·have Z:(o.2.1==0)=false:=by simpa using hk3
       go_wp2_with (first|(guard_target=wpList _ _ _ ({ dst:=_,op:=.load 43 _,type:=_,pos:=_,after:=_,guard:=none }::_) _ _;refine AO rfl _ rfl g (L+j*34) o (.slice E o.2.2.length G) A.out rfl D ?_)|(guard_target=wpList _ _ _ ({ dst:=_,op:=.store 43 _ _,type:=_,pos:=_,after:=_,guard:=none }::_) _ _;refine AV rfl _ _ rfl _ rfl o (.slice E o.2.2.length G) A.out M.out.one rfl rfl ?_)|fail);go_roundg (l.length-(j+1))
       case measure=>rw[HK.out];omega
       case rel=>exact⟨j+1,by omega,rfl,by simp,C.out,W.out (by unfold Sto.badK;simp only[Bool.or_eq_false_iff,Bool.and_eq_false_iff,decide_eq_false_iff_not];omega)⟩
   ·have ag:(l.length:Int)≤(j:Int):=by omega
    have X:Hid ((Sto.opsOf l).any Sto.badK=false):=by
     rw[← Q.out,List.drop_eq_nil_of_le (by omega)];exact QA rfl
    go_wp2_with fail
    go_loopg [3,39] l.length (λk s3 s39 wq=>∃i:Nat,i≤l.length∧k=l.length-i∧s39=.int .i64 (i:Nat)∧s3=.int .i64 (Sto.mass ((Sto.opsOf l).take i):Nat)∧Sto.mass ((Sto.opsOf l).take i)≤8192∧Below w.heap.size w wq)
    case atStart=>exact⟨0,ZS _,rfl,rfl,rfl,ZS _,HB.out⟩
    case round =>
     obtain⟨i,hi,hk,rfl,rfl,hm,ah⟩:=hrel;have aj:=QA hk;have S:=QA ah;clear hk ah;have ay:(0:Int)≤(i:Int):=Int.natCast_nonneg _;by_cases hin:i<l.length
     ·have Y:(i:Int)<(l.length:Int):=by omega
      obtain⟨⟨o,pv⟩,U⟩:∃p,l[i]?=some p:=⟨_,ZG hin⟩
      obtain⟨B,R,g,L,rfl,hg,D⟩:=(H.out.mv (MV.below S.out)).at U;have J:=R.1;have I:=QA (Sto.mass_take (Sto.opsOf_get U));have ac:=Sto.mass_le (Sto.opsOf l) (i+1);obtain⟨E,G,O,al⟩:=J.form;simp only at O B J D I;rw[I.out]at ac;subst O;have K:=Aj.new wr o (.slice E o.2.2.length G);have an:=K.cell (Ao B _);have am:=QA K;have M:=QA J;have A:=QA B;clear K J B U R;obtain⟨m,V⟩:∃m,Sto.mass ((Sto.opsOf l).take i)=m:=⟨_,rfl⟩
      rw[V]at I ac hm ⊢;have ax:=QA V;clear V;have C:Hid (Below w.heap.size w (wr.alloc (.cells (AG o (.slice E o.2.2.length G)).toArray 43))):=QA (S.out.alloc S.out.size _);by_cases hbig:8157-(m:Int)<(o.2.2.length:Int)
      ·go_wp2_with (first|(guard_target=wpList _ _ _ ({ dst:=_,op:=.load 43 _,type:=_,pos:=_,after:=_,guard:=none }::_) _ _;refine AO rfl _ rfl g (L+i*34) o (.slice E o.2.2.length G) A.out rfl D ?_)|(guard_target=wpList _ _ _ ({ dst:=_,op:=.store 43 _ _,type:=_,pos:=_,after:=_,guard:=none }::_) _ _;refine AV rfl _ _ rfl _ rfl o (.slice E o.2.2.length G) A.out M.out.one rfl rfl ?_)|fail);refine bodyPost_ret (v:=.int .i64 5) (by simp[results,Tryz.results30,go_sem]) rfl ?_;refine⟨?_,C.out⟩;unfold Sto.chk;rw[if_neg (by omega),if_neg (by rw[X.out];simp),if_pos (by omega)]
      ·have ak:(o.2.2.length:Int)≤8157-(m:Int):=by omega
       go_wp2_with (first|(guard_target=wpList _ _ _ ({ dst:=_,op:=.load 43 _,type:=_,pos:=_,after:=_,guard:=none }::_) _ _;refine AO rfl _ rfl g (L+i*34) o (.slice E o.2.2.length G) A.out rfl D ?_)|(guard_target=wpList _ _ _ ({ dst:=_,op:=.store 43 _ _,type:=_,pos:=_,after:=_,guard:=none }::_) _ _;refine AV rfl _ _ rfl _ rfl o (.slice E o.2.2.length G) A.out M.out.one rfl rfl ?_)|fail);go_roundg (l.length-(i+1))
       case measure=>rw[aj.out];omega
       case rel=>exact⟨i+1,by omega,rfl,by simp,by rw[I.out];try (congr 1;try omega),by rw[I.out];omega,C.out⟩
     ·have Y:(l.length:Int)≤(i:Int):=by omega
      go_wp2_with fail;refine bodyPost_ret (v:=.int .i64 0) (by simp[results,Tryz.results30,go_sem]) rfl ?_;refine⟨?_,S.out⟩;have ae:(Sto.opsOf l).take i=Sto.opsOf l:=List.take_of_length_le (by omega);rw[ae]at hm;unfold Sto.chk;rw[if_neg (by omega),if_neg (by rw[X.out];simp),if_neg (by omega)]
open Go.Maps Go.WideMaps
theorem J0 {w wl w5:World} {v:Value} {base:Nat} {l:List UInt8} (hb:Below w.heap.size w wl) (hO:Ae wl base v l) (hbase:w.heap.size≤base) (hg:wl.grownBy w5 v.ownBlock):Below w.heap.size w w5 :=
 hb.grown hg hb.size λk e=>Nat.le_trans hbase (hO.lt k e).1
theorem JD (v:Value) (l:List UInt8) (w:World) (h:AZ w v l) (hl:l.length≤1000000000) :
  Calls Tryz.prog 40 #[v] w λe w'=>∃v',e=.returned v'∧Ae w' w.heap.size v' l∧Below w.heap.size w w':=by
 have N:∀(w:World) (a:Option Addr) (n c n' c':Nat),(binOp .eql 41 (.slice a n c) (.slice none n' c')).run Tryz.prog w=.ok (.bool a.isNone) w:=λw a n c n' c'=>Lib.run_eql_slice_nil w _ _ a n c n' c' Tryz.underlying41
 obtain⟨a,c,rfl,O,L⟩:=h.form2;cases a with
 | none =>
  have I:l=[]:=by
   have:=L rfl;exact List.length_eq_zero_iff.1 (by omega)
  subst I;refine (AnyE.slices_Clone_nil Bz 0 c w).mono ?_;rintro e w' ⟨rfl,rfl⟩;exact⟨_,rfl,World.ownsRow_nil _ _ _ _,Below.refl _ _⟩
 | some p =>
  have A:Hid (Ae (w.alloc (.cells #[] 5)) w.heap.size (.slice (some ⟨w.heap.size,0,none⟩) 0 0) []) :=
   QA (World.ownsRow_lit (base:=w.heap.size) (e:=5) (size:=1) w #[] 0 (QM _) (by unfold maxLen;omega) rfl)
  have o:Below w.heap.size w (w.alloc (.cells #[] 5)):=(Below.refl _ _).alloc (QM _) _;have F:=QA (h.below o);have E:=o.size;have G:=QA o;clear o h;go_enter Tryz.func40,Tryz.ntmps40;go_wp2_with (first|(at_builtin;refine BF rfl _ _ rfl w.heap.size (.slice (some ⟨w.heap.size,0,none⟩) 0 0) [] rfl A.out (.slice (some p) l.length c) l rfl F.out (by simp;omega) E ?_;intro d' w5 hown hgrow hloc;clear hloc;have B:=QA hown;have C:=QA hgrow;obtain⟨J,M,K,D,H⟩:=Ae.form3 hown;subst D;clear hown hgrow)|fail);refine bodyPost_ret (v:=.slice J M K) (by simp[results,Tryz.results40,go_sem]) rfl ?_;exact⟨_,rfl,B.out,J0 G.out A.out (QM _) C.out⟩
theorem Ar {ops:Array Oper} {S:World→Prop} {op:Oper} {a:Act} (hw:Region.wanted op (yielded ops a.tmps)=true) (x:Operand) (ho:op.op=.load 40 x) (b o:Nat) (hx:a.eval x=.pointer (some ⟨b,o,none⟩)) (k:List UInt8) (hk:k.length=32)
  (hS:∀w,S w→w.rangeAt b o (AH k)):YieldsIf Tryz.prog ops S op (Ag k) a :=
 yieldsIf_load_mid hw _ x ho b o hx (AH k) _ hS Tryz.underlying40 rfl (by rw[AP,hk];kernel_rfl)
theorem Ae.bytF {w:World} {base:Nat} {F:Nat→Prop} {v:Value} {l:List UInt8} (h:Ae w base v l) (hF:∀b,base≤b→F b):BA w F v l :=
 ⟨h.byts,λp n c e _=>hF _ (h.lt p.block (by rw[e];rfl)).1⟩
theorem Ae.slice {w:World} {base:Nat} {v:Value} {l:List UInt8} (h:Ae w base v l):∃a c,v=.slice a l.length c:=by
 obtain⟨a,c,e,_⟩:=h.byts.form;exact⟨a,c,e⟩
abbrev Bt (mb:Nat) (w w':World):Prop:=SFr mb (λ_=>Tag.other) (λ_=>Tag.other) w w'
theorem Bt.grown {mb:Nat} {w w':World} (h:w.grownBy w' (some mb)):Bt mb w w' :=
 ⟨h.os,h.tape,h.output,h.size,λ_ _=>rfl,λb hb _ hne=>h.block b hb (λe=>hne (Option.some.inj e))⟩
theorem Bt.mv {mb:Nat} {G:Nat→Prop} {w w':World} (h:Bt mb w w') (hG:∀b,G b→b≠mb):MV G G w w':=⟨h.size,λb hb hg=>⟨hg,h.block b hb rfl (hG b hg)⟩⟩
theorem Kv.of {w:World} {b n:Nat} {l:Sto.ME} (h:w.ownsMap Tryz.prog 40 Sto.elemR b n (Sto.datum l)):w.ownsMap Tryz.prog 40 Sto.elemR b l.length (Sto.datum l):=by
 obtain⟨D,o,C,F,E,A⟩:=h;refine⟨D,o,C,F,?_,A⟩;have B:=congrArg Maps.size A;rw[Sto.datum_size]at B;rw[B];simp[Maps.size,length_sorted]
namespace Sto
theorem mem_rins {x y:Op×Value}:∀{l:ME},y∈rins x l↔y=x∨y∈l
 | []=>by simp[rins]
 | z::r=>by
  unfold rins;split
  ·simp
  ·rw[List.mem_cons,mem_rins,List.mem_cons];constructor
   ·rintro (h|h|h)
    ·exact .inr (.inl h)
    ·exact .inl h
    ·exact .inr (.inr h)
   ·rintro (h|h|h)
    ·exact .inr (.inl h)
    ·exact .inl h
    ·exact .inr (.inr h)
theorem mem_rdel {k:List UInt8} {y:Op×Value} {l:ME} (h:y∈rdel l k):y∈l:=(List.mem_filter.1 h).1
theorem rdel_len (l:ME) (k:List UInt8):(rdel l k).length≤l.length:=List.length_filter_le _ _
theorem rins_len (x:Op×Value):∀l:ME,(rins x l).length=l.length+1
 | []=>rfl
 | y::r=>by
  unfold rins;split
  ·rfl
  ·rw[List.length_cons,rins_len x r,List.length_cons]
theorem take_step {l:List Op} {j:Nat} {o:Op} (h:l[j]?=some o) (E:Ents):chgs E (l.take (j+1))=chg (chgs E (l.take j)) o:=by
 rw[List.take_add_one,h];unfold chgs;rw[List.foldl_append];rfl
end Sto
structure A4 (w:World) (G:Nat→Prop) (mb:Nat) (l:Sto.ME):Prop where
 map:w.ownsMap Tryz.prog 40 Sto.elemR mb l.length (Sto.datum l)
 key:∀p∈l,p.1.1.length=32
 val:∀p∈l,BA w G p.2 p.1.2.2
theorem A4.mv {G:Nat→Prop} {w w':World} {mb:Nat} {l:Sto.ME} (h:A4 w G mb l) (m:MV G G w w') (he:w'.heap[mb]?=w.heap[mb]?):A4 w' G mb l:=⟨ownsMap_at h.map he,h.key,λp hp=>(h.val p hp).mv m⟩
theorem A4.below {G:Nat→Prop} {w w':World} {mb:Nat} {l:Sto.ME} (h:A4 w G mb l) (hb:Below w.heap.size w w'):A4 w' G mb l:=h.mv (MV.below hb) (hb.block mb h.map.lt)
theorem Ds (mb:Nat) (l:Sto.ME) (v:Value) (ops:Sto.ME) (w:World) (G:Nat→Prop) (hG:∀b,G b→b≠mb) (hnew:∀b,w.heap.size≤b→G b) (hm:A4 w G mb l)
  (ho:BQ w G v ops) (hol:ops.length≤1000000000) (hll:l.length≤1000000000) (hbl:∀p∈ops,p.1.2.2.length≤1000000000) :
  Calls Tryz.prog 32 #[.map (some mb),v] w λe w'=>e=.returned (.tuple #[])∧∃l',A4 w' G mb l'∧l'.map (·.1)=Sto.chgs (l.map (·.1)) (Sto.opsOf ops)∧Bt mb w w'∧l'.length≤l.length+ops.length:=by
 obtain⟨va,vc,rfl⟩:=ho.form;have H:=QA ho;have HM:=QA hm;clear ho hm;have aD:=Sto.opsOf_len ops;go_enter Tryz.func32,Tryz.ntmps32;go_wp2_with fail
 go_loopg [8] ops.length (λk s8 wr=>∃(j:Nat) (E:Sto.ME),j≤ops.length∧k=ops.length-j∧s8=.int .i64 (j:Nat)∧A4 wr G mb E∧E.map (·.1)=Sto.chgs (l.map (·.1)) ((Sto.opsOf ops).take j)∧Bt mb w wr∧E.length≤l.length+j)
 case atStart=>exact⟨0,l,ZS _,rfl,rfl,HM.out,rfl,SFr.refl _ _ _,QM _⟩
 case round =>
  obtain⟨j,E,hj,hk,rfl,hM,Y,hB,aM⟩:=hrel;have HK:=QA hk;have HB:=QA hB;have D:=QA hM;have Q:=QA Y;clear hk hB hM Y;have aI:(0:Int)≤(j:Int):=Int.natCast_nonneg _;by_cases hjn:j<ops.length
  ·have ah:(j:Int)<(ops.length:Int):=by omega
   obtain⟨⟨o,pv⟩,C⟩:∃p,ops[j]?=some p:=⟨_,ZG hjn⟩
   obtain⟨B,ad,g,af,rfl,hg,P⟩:=(H.out.mv (HB.out.mv hG)).at C;have N:=ad.1;have az:o.2.2.length≤1000000000:=hbl _ (List.mem_of_getElem? C);have S:=QA (Sto.take_step (Sto.opsOf_get C) (l.map (·.1)));obtain⟨I,J,X,aJ⟩:=N.form;simp only at X B N P S;subst X;have K:=Aj.new wr o (.slice I o.2.2.length J);have ar:=K.cell (Bl B _);have aA:=K.cell (Ao B _);have T:=QA K;have V:=QA N;have A:=QA B;have HW:Hid (Below wr.heap.size wr (wr.alloc (.cells (AG o (.slice I o.2.2.length J)).toArray 43))):=QA ((Below.refl _ _).alloc (QM _) _);have O:=QA (D.out.below HW.out);have F:=Cf B;clear K N B C ad;by_cases hk3:o.2.1=0
   ·have Z:(o.2.1==0)=true:=by simpa using hk3
    go_wp2_with (first|(guard_target=wpList _ _ _ ({ dst:=_,op:=.load 43 _,type:=_,pos:=_,after:=_,guard:=none }::_) _ _;refine AO rfl _ rfl g (af+j*34) o (.slice I o.2.2.length J) A.out rfl P ?_)|(guard_target=wpList _ _ _ ({ dst:=_,op:=.store 43 _ _,type:=_,pos:=_,after:=_,guard:=none }::_) _ _;refine AV rfl _ _ rfl _ rfl o (.slice I o.2.2.length J) A.out V.out.one rfl rfl ?_)|(guard_target=wpList _ _ _ ({ dst:=_,op:=.load 40 _,type:=_,pos:=_,after:=_,guard:=none }::_) _ _;refine Af rfl _ rfl wr.heap.size 0 o.1 A.out rfl T.out.key ?_)|(at_delete;refine wpList_delete_own _ rfl _ _ 49 40 rfl 85 BO Tryz.underlying49 Sto.elemR mb _ _ rfl O.out.map _ _ rfl F ?_;intro w3 hown3 hturn3)|fail);have ao:Bt mb w w3:=HB.out.trans ((SFr.below HW.out).trans (Bt.grown hturn3.grown));go_roundg (ops.length-(j+1))
    case measure=>rw[HK.out];omega
    case rel =>
     refine⟨j+1,Sto.rdel E o.1,by omega,rfl,by simp,⟨?_,λp C=>D.out.key p (Sto.mem_rdel C),λp C=>(O.out.val p (Sto.mem_rdel C)).mv ((Bt.grown hturn3.grown).mv hG)⟩,?_,ao,?_⟩
     ·rw[Sto.datum_del]at hown3;exact Kv.of hown3
     ·rw[Sto.rdel_ops,Q.out,S.out,Sto.chg,if_pos hk3]
     ·have:=Sto.rdel_len E o.1;omega
   ·have Z:(o.2.1==0)=false:=by simpa using hk3
    go_wp2_with (first|(guard_target=wpList _ _ _ ({ dst:=_,op:=.load 43 _,type:=_,pos:=_,after:=_,guard:=none }::_) _ _;refine AO rfl _ rfl g (af+j*34) o (.slice I o.2.2.length J) A.out rfl P ?_)|(guard_target=wpList _ _ _ ({ dst:=_,op:=.store 43 _ _,type:=_,pos:=_,after:=_,guard:=none }::_) _ _;refine AV rfl _ _ rfl _ rfl o (.slice I o.2.2.length J) A.out V.out.one rfl rfl ?_)|fail);obtain⟨W,hA⟩:∃x,wr.alloc (.cells (AG o (.slice I o.2.2.length J)).toArray 43)=x:=⟨_,rfl⟩
    rw[hA]at T HW ar aA ⊢;clear hA O;refine AK (λw'=>Aj w' wr.heap.size o (.slice I o.2.2.length J)) 10 (by kernel_rfl) ?_;have M:Aj { W with drawn:=W.drawn+1 } wr.heap.size o (.slice I o.2.2.length J):=T.out;have R:Below wr.heap.size wr { W with drawn:=W.drawn+1 }:=Below.drewN HW.out 1;obtain⟨wD,hD⟩:∃x:World,{ W with drawn:=W.drawn+1 }=x:=⟨_,rfl⟩
    rw[hD]at M R ⊢;have U:=QA R;have aw:=U.out.size;clear hD R;refine TK (i:=0) (v:=.map (some mb)) rfl (Or.inl ⟨by rfl,λw hSw=>by go_simp⟩) M ?_;simp only[Act.put,QD,QK,QI,QJ,QC,QH,QG];refine TK (i:=1) (v:=.pointer (some ⟨wr.heap.size,0,none⟩)) rfl (Or.inl ⟨by rfl,λw hSw=>by go_simp⟩) M ?_;simp only[Act.put,QD,QK,QI,QJ,QC,QH,QG];refine TK (i:=2) (v:=Ag o.1) rfl (Ar rfl _ rfl wr.heap.size 0 rfl o.1 A.out (λw hSw=>hSw.key)) M ?_;simp only[Act.put,QD,QK,QI,QJ,QC,QH,QG];refine TK (i:=3) (v:=.pointer (some ⟨wr.heap.size,32,none⟩)) rfl (Or.inl ⟨by rfl,λw hSw=>by go_simp⟩) M ?_;simp only[Act.put,QD,QK,QI,QJ,QC,QH,QG];refine TK (i:=4) (v:=.int .i64 o.2.1) rfl (Or.inl ⟨by rfl,λw hSw=>by have aq:=hSw.cell (Bl A.out _);go_simp⟩) M ?_;simp only[Act.put,QD,QK,QI,QJ,QC,QH,QG];refine TK (i:=5) (v:=.pointer (some ⟨wr.heap.size,33,none⟩)) rfl (Or.inl ⟨by rfl,λw hSw=>by go_simp⟩) M ?_;simp only[Act.put,QD,QK,QI,QJ,QC,QH,QG];refine TK (i:=6) (v:=.slice I o.2.2.length J) rfl (Or.inl ⟨by rfl,λw hSw=>by have aq:=hSw.cell (Ao A.out _);go_simp⟩) M ?_;simp only[Act.put,QD,QK,QI,QJ,QC,QH,QG];refine TO (i:=7) ?_;refine AD (by decide) (λK7 HK7=>?_);simp only[QE,QL,QF,QN];go_wp2_with fail;refine (JD _ o.2.2 _ (V.out.below U.out) az).mono ?_;rintro e w2 ⟨v',rfl,ho2,hb2⟩;obtain⟨ca,cc,ap⟩:=ho2.slice;subst ap;have au:=QA ho2;have ag:=QA (U.out.trans (hb2.mono aw));have L:=M.keep hb2;have ac:=QA (D.out.below ag.out);have aj:=Sto.elemR_mk o.2.1 ca o.2.2.length cc;clear ho2 hb2;go_wp2;refine HK7.out _ _ ⟨λ_=>L,?_⟩;clear HK7;refine TO (i:=8) ?_;refine AD (by decide) (λK8 HK8=>?_);simp only[QE,QL,QF,QN];go_wp2_with fail;refine HK8.out _ _ ⟨λ_=>L,?_⟩;clear HK8;refine TO (i:=9) ?_;refine AD (by decide) (λK9 HK9=>?_);simp only[QE,QL,QF,QN];go_wp2_with (first|(at_mapUpdate;refine wpList_mapUpdate_own _ rfl _ _ _ 49 rfl 40 85 BO Tryz.underlying49 Sto.elemR mb E.length _ rfl ac.out.map (by unfold maxLen;omega) _ _ _ rfl rfl F _ [] aj ?_;intro w4 hown4 hgrow4)|fail);have ai:mb≠wr.heap.size:=Nat.ne_of_lt D.out.map.lt;have ax:Aj w4 wr.heap.size o (.slice I o.2.2.length J):=(hgrow4.block _ (AC L) (λe=>ai (Option.some.inj e).symm)).trans L;have ab:Bt mb wr w4:=(SFr.below ag.out).trans (Bt.grown hgrow4);have aa:w4.ownsMap Tryz.prog 40 Sto.elemR mb (E.length+1) (Sto.datum (Sto.rins (o,.slice ca o.2.2.length cc) (Sto.rdel E o.1))):=by
     rw[← Sto.datum_put];exact hown4
    have ay:=QA (Kv.of aa);have av:=QA ab;have ak:Hid (MV G G w2 w4):=QA ((Bt.grown hgrow4).mv hG);clear hown4 hgrow4 aa ab;refine HK9.out _ _ ⟨λ_=>ax,?_⟩;clear HK9;refine AL (by kernel_rfl) ?_ _;go_wp2_with fail;go_roundg (ops.length-(j+1))
    case measure=>rw[HK.out];omega
    case rel =>
     refine⟨j+1,Sto.rins (o,.slice ca o.2.2.length cc) (Sto.rdel E o.1),by omega,rfl,by simp,⟨ay.out,λp C=>?_,λp C=>?_⟩,?_,HB.out.trans av.out,?_⟩
     ·rcases Sto.mem_rins.1 C with rfl|C
      ·exact A.out
      ·exact D.out.key p (Sto.mem_rdel C)
     ·rcases Sto.mem_rins.1 C with rfl|C
      ·have h5:BA w2 G (.slice ca o.2.2.length cc) o.2.2:=au.out.bytF λb hb=>hnew b (by have:=HB.out.size;omega)
       exact h5.mv ak.out
      ·exact ((ac.out.val p (Sto.mem_rdel C))).mv ak.out
     ·rw[Sto.rins_ops,Sto.rdel_ops,Q.out,S.out,Sto.chg,if_neg hk3]
     ·rw[Sto.rins_len];have:=Sto.rdel_len E o.1;omega
  ·have ah:(ops.length:Int)≤(j:Int):=by omega
   go_wp2_with fail;go_end0;exact⟨rfl,E,D.out,by rw[Q.out,List.take_of_length_le (by omega)],HB.out,by omega⟩
open Go.Maps Go.WideMaps
theorem CK {w:World} {g off:Nat} (l:List UInt8) (cap:Nat) (hc:l.length≤cap) (hg:g<w.heap.size) (h:∀(i:Nat) (x:UInt8),l[i]?=some x→w.cell? ⟨g,off+i,none⟩=some (.int .u8 x.toNat)):AZ w (.slice (some ⟨g,off,none⟩) l.length cap) l :=
 ⟨some ⟨g,off,none⟩,cap,rfl,hc,λe=>(by cases e),λi x hi=>⟨g,off,rfl,hg,h i x hi⟩⟩
theorem Aj.byts {w:World} {g:Nat} {o:Sto.Op} {v:Value} (h:Aj w g o v) (hk:o.1.length=32):AZ w (.slice (some ⟨g,0,none⟩) 32 32) o.1:=by
 have:=CK (w:=w) (g:=g) (off:=0) o.1 32 (by omega) (AC h) (λi x hi=>h.key i _ (by unfold AH;rw[List.getElem?_map,hi];rfl))
 rwa [hk]at this
theorem C1 (o:Sto.Op) (v:Value) (w:World) (hk:o.1.length=32) (hkd:0≤o.2.1∧o.2.1≤9) (hv:AZ w v o.2.2) (hl:o.2.2.length≤8192) :
  Calls Tryz.prog 38 #[.agg (AG o v).toArray] w λe w'=>∃v',e=.returned v'∧Ae w' w.heap.size v' (Sto.bytes o)∧Below w.heap.size w w':=by
 obtain⟨M,N,rfl,ai⟩:=hv.form;have H:=Aj.new w o (.slice M o.2.2.length N);have ad:=H.cell (Ao hk _);have R:=QA H;have A:=QA hk;have HV:=QA hv;clear hv hk H;go_enter Tryz.func38,Tryz.ntmps38;go_wp2_with fail;obtain⟨G,Z⟩:∃x,w.alloc (.cells (AG o (.slice M o.2.2.length N)).toArray 43)=x:=⟨_,rfl⟩
 have U:Below w.heap.size w G:=by rw[← Z];exact (Below.refl _ _).alloc (QM _) _
 rw[Z]at R ad ⊢;clear Z;refine AK (λw'=>Aj w' w.heap.size o (.slice M o.2.2.length N)) 16 (by kernel_rfl) ?_;have B:Aj { G with drawn:=G.drawn+1 } w.heap.size o (.slice M o.2.2.length N):=R.out;have I:Below w.heap.size w { G with drawn:=G.drawn+1 }:=Below.drewN U 1;obtain⟨F,hD⟩:∃x:World,{ G with drawn:=G.drawn+1 }=x:=⟨_,rfl⟩
 rw[hD]at B I ⊢;have S:=QA I;have ab:=S.out.size;clear hD I;refine TK (i:=0) (v:=.pointer (some ⟨w.heap.size,0,none⟩)) rfl (Or.inl ⟨by rfl,λw hSw=>by go_simp⟩) B ?_;simp only[Act.put,QD,QK,QI,QJ,QC,QH,QG];refine TK (i:=1) (v:=.slice (some ⟨w.heap.size,0,none⟩) 32 32) rfl (Or.inl ⟨by rfl,λw hSw=>by go_simp⟩) B ?_;simp only[Act.put,QD,QK,QI,QJ,QC,QH,QG];refine TK (i:=2) (v:=.pointer (some ⟨w.heap.size,32,none⟩)) rfl (Or.inl ⟨by rfl,λw hSw=>by go_simp⟩) B ?_;simp only[Act.put,QD,QK,QI,QJ,QC,QH,QG];refine TK (i:=3) (v:=.int .i64 o.2.1) rfl (Or.inl ⟨by rfl,λw hSw=>by have Y:=hSw.cell (Bl A.out _);go_simp⟩) B ?_;simp only[Act.put,QD,QK,QI,QJ,QC,QH,QG];refine TK (i:=4) (v:=.int .u8 (IntKind.u8.wrap o.2.1)) rfl (Or.inl ⟨by rfl,λw hSw=>by go_simp⟩) B ?_;simp only[Act.put,QD,QK,QI,QJ,QC,QH,QG];refine TK (i:=5) (v:=.int .i64 (o.2.2.length:Nat)) rfl (Or.inl ⟨by rfl,λw hSw=>by go_simp⟩) B ?_;simp only[Act.put,QD,QK,QI,QJ,QC,QH,QG];refine TK (i:=6) (v:=.int .u8 (IntKind.u8.wrap (o.2.2.length:Nat))) rfl (Or.inl ⟨by rfl,λw hSw=>by go_simp⟩) B ?_;simp only[Act.put,QD,QK,QI,QJ,QC,QH,QG];refine TK (i:=7) (v:=.int .i64 (o.2.2.length:Nat)) rfl (Or.inl ⟨by rfl,λw hSw=>by go_simp⟩) B ?_;simp only[Act.put,QD,QK,QI,QJ,QC,QH,QG];refine TK (i:=8) (v:=.int .i64 ((o.2.2.length:Int) / 256)) rfl (Or.inl ⟨by rfl,λw hSw=>by go_simp⟩) B ?_;simp only[Act.put,QD,QK,QI,QJ,QC,QH,QG];refine TK (i:=9) (v:=.int .u8 (IntKind.u8.wrap ((o.2.2.length:Int) / 256))) rfl (Or.inl ⟨by rfl,λw hSw=>by go_simp⟩) B ?_;simp only[Act.put,QD,QK,QI,QJ,QC,QH,QG];refine TK (i:=11) (v:=.pointer (some ⟨w.heap.size,33,none⟩)) rfl (Or.inl ⟨by rfl,λw hSw=>by go_simp⟩) B ?_;simp only[Act.put,QD,QK,QI,QJ,QC,QH,QG];refine TK (i:=12) (v:=.slice M o.2.2.length N) rfl (Or.inl ⟨by rfl,λw hSw=>by have Y:=hSw.cell (Ao A.out _);go_simp⟩) B ?_;simp only[Act.put,QD,QK,QI,QJ,QC,QH,QG];refine TO (i:=10) ?_;refine AD (by decide) (λK10 HK10=>?_);simp only[QE,QL,QF,QN];go_wp2_with fail;have J:Below F.heap.size F (F.alloc (.cells #[.int .u8 o.2.1,.int .u8 ((o.2.2.length:Int) % 256),.int .u8 ((o.2.2.length:Int) / 256)] 5)):=(Below.refl _ _).alloc (QM _) _;have C:=AJ F (.cells #[.int .u8 o.2.1,.int .u8 ((o.2.2.length:Int) % 256),.int .u8 ((o.2.2.length:Int) / 256)] 5);have D:=B.keep J;have E:=QA (S.out.trans (J.mono ab));have O:=E.out.size;have HT:Hid (AZ (F.alloc (.cells #[.int .u8 o.2.1,.int .u8 ((o.2.2.length:Int) % 256),.int .u8 ((o.2.2.length:Int) / 256)] 5)) (.slice (some ⟨F.heap.size,0,none⟩) 3 3) [UInt8.ofNat o.2.1.toNat,UInt8.ofNat (o.2.2.length % 256),UInt8.ofNat (o.2.2.length / 256 % 256)]):=by
  refine QA (CK (off:=0) [UInt8.ofNat o.2.1.toNat,UInt8.ofNat (o.2.2.length % 256),UInt8.ofNat (o.2.2.length / 256 % 256)] 3 (QM _) (AC C) λi x hi=>?_)
  match i,hi with
  | 0,hi =>
   simp at hi;subst hi;refine (AA C 0 _ rfl).trans ?_;rw[UInt8.toNat_ofNat_of_lt' (by show _<256;omega),show ((o.2.1.toNat:Nat):Int)=o.2.1 by omega];rfl
  | 1,hi =>
   simp at hi;subst hi;refine (AA C 1 _ rfl).trans ?_;rw[UInt8.toNat_ofNat_of_lt' (by show _<256;omega)]
   congr 2
  | 2,hi =>
   simp at hi;subst hi;refine (AA C 2 _ rfl).trans ?_;rw[UInt8.toNat_ofNat_of_lt' (by show _<256;omega),show ((o.2.2.length / 256 % 256:Nat):Int)=(o.2.2.length:Int) / 256 by omega];rfl
  | i+3,hi=>simp at hi
 obtain⟨V,hE⟩:∃x,F.alloc (.cells #[.int .u8 o.2.1,.int .u8 ((o.2.2.length:Int) % 256),.int .u8 ((o.2.2.length:Int) / 256)] 5)=x:=⟨_,rfl⟩
 rw[hE]at HT D E O ⊢;have HP:=QA (E7 41 (D.byts A.out) HT.out (HV.out.below E.out));have L:Below V.heap.size V (V.alloc (.cells #[.slice (some ⟨w.heap.size,0,none⟩) 32 32,.slice (some ⟨F.heap.size,0,none⟩) 3 3,.slice M o.2.2.length N] 41)):=(Below.refl _ _).alloc (QM _) _;have Q:=D.keep L;have K:=QA (E.out.trans (L.mono O));clear hE C J L HT;refine HK10.out _ _ ⟨λ_=>D,?_⟩;clear HK10;refine TO (i:=13) ?_;refine AD (by decide) (λK13 HK13=>?_);simp only[QE,QL,QF,QN];go_wp2_with fail;refine HK13.out _ _ ⟨λ_=>Q,?_⟩;clear HK13;refine TO (i:=14) ?_;refine AD (by decide) (λK14 HK14=>?_);simp only[QE,QL,QF,QN];go_wp2_with fail;have T:[o.1,[UInt8.ofNat o.2.1.toNat,UInt8.ofNat (o.2.2.length % 256),UInt8.ofNat (o.2.2.length / 256 % 256)],o.2.2].flatten=Sto.bytes o:=by unfold Sto.bytes;simp
 refine (C2 _ _ _ HP.out (by simp) (by rw[T,Sto.bytes_len A.out];omega)).mono ?_;rintro e w3 ⟨v',rfl,ho3,hb3⟩;rw[T]at ho3;have P:=Q.keep hb3;have X:=QA (K.out.trans (hb3.mono K.out.size));have ac:=QA (ho3.mono K.out.size);obtain⟨ca,cc,W⟩:=ho3.slice;subst W;clear ho3 hb3;go_wp2;refine HK14.out _ _ ⟨λ_=>P,?_⟩;clear HK14;refine TO (i:=15) ?_;refine AD (by decide) (λK15 HK15=>?_);simp only[QE,QL,QF,QN];go_wp2_with fail;refine HK15.out _ _ ⟨λ_=>P,?_⟩;clear HK15;refine AL (by kernel_rfl) ?_ _;go_wp2_with fail;refine bodyPost_ret (v:=.slice ca (Sto.bytes o).length cc) (by simp[results,Tryz.results38,go_sem]) rfl ?_;exact⟨_,rfl,ac.out,X.out⟩
open Go.Maps Go.WideMaps
namespace Sto
def getE (E:Ents) (k:List UInt8):Int×List UInt8×Bool:=match E.find? (λe=>e.1==k) with
 | some e=>(e.2.1,e.2.2,true)
 | none=>(0,[],false)
theorem getE_some {l:ME} {k:List UInt8} {p:Op×Value} (h:l.find? (λp=>p.1.1==k)=some p):getE (l.map (·.1)) k=(p.1.2.1,p.1.2.2,true):=by
 unfold getE;rw[List.find?_map,show ((λe:Op=>e.1==k)∘λx:Op×Value=>x.1)=λp=>p.1.1==k from rfl,h];rfl
theorem getE_none {l:ME} {k:List UInt8} (h:l.find? (λp=>p.1.1==k)=none):getE (l.map (·.1)) k=(0,[],false):=by
 unfold getE;rw[List.find?_map,show ((λe:Op=>e.1==k)∘λx:Op×Value=>x.1)=λp=>p.1.1==k from rfl,h];rfl
end Sto
theorem IB (w:World):(zeroValue 85).run Tryz.prog w=.ok (.agg #[.int .i64 0,.slice none 0 0]) w:=by kernel_rfl
theorem BW (w:World) (k:List UInt8):(w.alloc (.cells (AH k).toArray 40)).rangeAt w.heap.size 0 (AH k):=λj u hj=>by
 rw[Nat.zero_add];exact AA (AJ w _) j u (by simpa using hj)
theorem JM {l:Sto.ME} {k:List UInt8} {v:Value} {ps:List MemPlace} (h:Sto.elemR v=some ((Sto.datum l).atKey (.string k) (.held (.agg #[.int .i64 0,.slice none 0 0])),ps)) {w:World} {G:Nat→Prop} {mb:Nat} (hm:A4 w G mb l) :
  ∃a c,v=.agg #[.int .i64 (Sto.getE (l.map (·.1)) k).1,.slice a (Sto.getE (l.map (·.1)) k).2.1.length c]∧BA w G (.slice a (Sto.getE (l.map (·.1)) k).2.1.length c) (Sto.getE (l.map (·.1)) k).2.1∧Maps.has (Sto.datum l) (.string k)=(Sto.getE (l.map (·.1)) k).2.2:=by
 have A:=(Prod.mk.inj (Sto.elemR_inv h)).1;rw[Sto.datum_find]at A;rw[Sto.datum_has];cases hf:l.find? (λp=>p.1.1==k) with
 | none =>
  rw[hf]at A;rw[Sto.getE_none hf];have B:v=.agg #[.int .i64 0,.slice none 0 0]:=by simpa using A.symm
  refine⟨none,0,B,⟨⟨none,0,rfl,QM _,λ_=>rfl,λi x hi=>by simp at hi⟩,λp n c e _=>by simp at e⟩,?_⟩;rw[List.find?_eq_none]at hf;cases hx:l.any λp=>p.1.1==k
  ·rfl
  ·obtain⟨p,D,e⟩:=List.any_eq_true.1 hx;exact absurd e (hf p D)
 | some p =>
  rw[hf]at A;rw[Sto.getE_some hf];have o:=List.mem_of_find?_eq_some hf;have C:=hm.val p o;obtain⟨a,c,e,_⟩:=C.1.form;have B:v=Sto.elemV p.1 p.2:=by simpa using A.symm
  refine⟨a,c,by rw[B,Sto.elemV,e],by rw[← e];exact C,?_⟩;rw[List.any_eq_true];exact⟨p,o,(List.find?_some (p:=λp:Sto.Op×Value=>p.1.1==k) hf)⟩
theorem Gg (mb:Nat) (l:Sto.ME) (k:List UInt8) (w:World) (G:Nat→Prop) (hm:A4 w G mb l) (hk:k.length=32) (hl:(Sto.getE (l.map (·.1)) k).2.1.length≤1000000000) :
  Calls Tryz.prog 14 #[.map (some mb),.agg (AH k).toArray] w λe w'=>∃v',e=.returned (.tuple #[.int .i64 (Sto.getE (l.map (·.1)) k).1,v',.bool (Sto.getE (l.map (·.1)) k).2.2])∧Ae w' w.heap.size v' (Sto.getE (l.map (·.1)) k).2.1∧Below w.heap.size w w':=by
 have A:Below w.heap.size w (w.alloc (.cells (AH k).toArray 40)):=(Below.refl _ _).alloc (QM _) _;have HR:=QA (BW w k);have HM:=QA (hm.below A);have U:=Cf hk;obtain⟨⟨L,val,hs⟩,Q⟩:∃x,Sto.getE (l.map (·.1)) k=x:=⟨_,rfl⟩
 rw[Q]at hl ⊢;simp only at hl ⊢;have ae:=QA Q;clear Q;have T:=QA hk;clear hm hk;go_enter Tryz.func14,Tryz.ntmps14;go_wp2_with (first|(guard_target=wpList _ _ _ ({ dst:=_,op:=.load 40 _,type:=_,pos:=_,after:=_,guard:=none }::_) _ _;refine Af rfl _ rfl w.heap.size 0 k T.out rfl HR.out ?_)|(at_lookup;refine wpList_lookup_own_ok _ rfl _ _ 49 rfl 40 85 BO Tryz.underlying49 Sto.elemR (IB _) _ [] (Sto.elemR_mk 0 none 0 0) mb l.length _ rfl HM.out.map _ _ rfl U ?_;intro v ps hv;obtain⟨O,P,K,E,D⟩:=JM hv HM.out;rw[ae.out]at K E D;simp only at K E D;subst K;rw[D];have HV:=QA E.1;clear hv E D)|fail);obtain⟨B,hA⟩:∃x,w.alloc (.cells (AH k).toArray 40)=x:=⟨_,rfl⟩
 have S:B.heap.size=w.heap.size+1:=by rw[← hA];simp
 rw[hA]at HV A ⊢;rw[← S];clear hA HR HM;have X:=AJ B (.cells #[.int .i64 L,.slice O val.length P] 85);have o:Below B.heap.size B (B.alloc (.cells #[.int .i64 L,.slice O val.length P] 85)):=(Below.refl _ _).alloc (QM _) _;have J:=QA (HV.out.below o);have M:=A.trans (o.mono A.size);obtain⟨F,hB⟩:∃x,B.alloc (.cells #[.int .i64 L,.slice O val.length P] 85)=x:=⟨_,rfl⟩
 rw[hB]at X M J ⊢;clear hB o A HV S;refine AK (λw'=>w'.heap[B.heap.size]?=some (.cells #[.int .i64 L,.slice O val.length P] 85 (0,0))) 9 (by kernel_rfl) ?_;have H:({ F with drawn:=F.drawn+1 }:World).heap[B.heap.size]?=some (.cells #[.int .i64 L,.slice O val.length P] 85 (0,0)):=X;have N:Below w.heap.size w { F with drawn:=F.drawn+1 }:=Below.drewN M 1;have I:AZ { F with drawn:=F.drawn+1 } (.slice O val.length P) val:=J.out.below (Below.drewN (Below.refl _ F) 1);obtain⟨wD,hD⟩:∃x:World,{ F with drawn:=F.drawn+1 }=x:=⟨_,rfl⟩
 rw[hD]at H N I ⊢;have R:=QA N;have V:=QA I;clear hD N I M J X;refine TK (i:=0) (v:=.pointer (some ⟨B.heap.size,0,none⟩)) rfl (Or.inl ⟨by rfl,λw hSw=>by go_simp⟩) H ?_;simp only[Act.put,QD,QK,QI,QJ,QC,QH,QG];refine TK (i:=1) (v:=.int .i64 L) rfl (Or.inl ⟨by rfl,λw hSw=>by have Y:=AA hSw 0 _ rfl;go_simp⟩) H ?_;simp only[Act.put,QD,QK,QI,QJ,QC,QH,QG];refine TK (i:=2) (v:=.pointer (some ⟨B.heap.size,1,none⟩)) rfl (Or.inl ⟨by rfl,λw hSw=>by go_simp⟩) H ?_;simp only[Act.put,QD,QK,QI,QJ,QC,QH,QG];refine TK (i:=3) (v:=.slice O val.length P) rfl (Or.inl ⟨by rfl,λw hSw=>by have Y:=AA hSw 1 _ rfl;go_simp⟩) H ?_;simp only[Act.put,QD,QK,QI,QJ,QC,QH,QG];refine TK (i:=5) (v:=.bool hs) rfl (Or.inl ⟨by rfl,λw hSw=>by go_simp⟩) H ?_;simp only[Act.put,QD,QK,QI,QJ,QC,QH,QG];refine TO (i:=4) ?_;refine AD (by decide) (λK4 HK4=>?_);simp only[QE,QL,QF,QN];go_wp2_with fail;refine (JD _ val _ V.out hl).mono ?_;rintro e w2 ⟨v',rfl,ho2,o⟩;obtain⟨ca,cc,W⟩:=ho2.slice;subst W;have C:=(o.block _ (AC H)).trans H;have ac:=QA (R.out.trans (o.mono R.out.size));have Z:=QA (ho2.mono R.out.size);clear ho2 o;go_wp2;refine HK4.out _ _ ⟨λ_=>C,?_⟩;clear HK4;refine TO (i:=6) ?_;refine AD (by decide) (λK6 HK6=>?_);simp only[QE,QL,QF,QN];go_wp2_with fail;refine HK6.out _ _ ⟨λ_=>C,?_⟩;clear HK6;refine TO (i:=7) ?_;refine AD (by decide) (λK7 HK7=>?_);simp only[QE,QL,QF,QN];go_wp2_with fail;refine HK7.out _ _ ⟨λ_=>C,?_⟩;clear HK7;refine TO (i:=8) ?_;refine AD (by decide) (λK8 HK8=>?_);simp only[QE,QL,QF,QN];go_wp2_with fail;refine HK8.out _ _ ⟨λ_=>C,?_⟩;clear HK8;refine AL (by kernel_rfl) ?_ _;go_wp2_with fail;refine bodyPost_ret (v:=.tuple #[.int .i64 L,.slice ca val.length cc,.bool hs]) (by simp[results,Tryz.results14,go_sem]) rfl ?_;exact⟨_,rfl,Z.out,ac.out⟩
section
variable {w : World} {r B mb : Nat} {ver : Int} {sv : Value} {dead : Bool} (h : w.heap[r]? = some (.cells (AF ver sv mb B dead) 51 (0, 0)))
include h
theorem rc0:w.cell? ⟨r,0,none⟩=some (.int .i64 ver):=AA h 0 _ rfl
theorem rc1:w.cell? ⟨r,1,none⟩=some (sv):=AA h 1 _ rfl
theorem rc2:w.cell? ⟨r,2,none⟩=some (.map (some mb)):=AA h 2 _ rfl
theorem rc3:w.cell? ⟨r,3,none⟩=some (.pointer (some ⟨B,0,none⟩)):=AA h 3 _ rfl
theorem rc4:w.cell? ⟨r,4,none⟩=some (.bool dead):=AA h 4 _ rfl
end
theorem Je {l:List Int} (h:l≠[]):l[l.length-1]?=some (l.getLastD 0):=by
 rw[← List.getLast?_eq_getElem?,List.getLast?_eq_some_getLast h,List.getLastD_eq_getLast?,List.getLast?_eq_some_getLast h];rfl
theorem Bb (w:World) (r B mb:Nat) (ver:Int) (sv:Value) (dead:Bool) (l:List Int) (h:w.heap[r]?=some (.cells (AF ver sv mb B dead) 51 (0,0))) (hN:Ints w sv l) (hne:l≠[]) (hl:l.length≤1000000) :
  Calls Tryz.prog 34 #[.pointer (some ⟨r,0,none⟩)] w λe w'=>e=.returned (.int .i64 (l.getLastD 0))∧∃n,w'=w.drewN n:=by
 obtain⟨I,N,rfl⟩:=hN.form;have o:0<l.length:=List.length_pos_iff.2 hne;obtain⟨g,A,rfl,D,J⟩:=hN.at (Je hne);have M:((l.length:Int)-1).toNat=l.length-1:=by omega
 have E:(0:Int)≤(l.length:Int)-1:=by omega
 have K:(l.length:Int)-1<(l.length:Int):=by omega
 have C:((l.length-1:Nat):Int)=(l.length:Int)-1:=by omega
 have G:=rc0 h;have O:=rc1 h;have H:=rc2 h;have F:=rc3 h;have L:=rc4 h;go_enter Tryz.func34,Tryz.ntmps34;go_wp2_with fail;refine Ad [] (by kernel_rfl) (by kernel_rfl) ?_;simp only[Br,QF,QN,QE,QL,Nat.sub_zero,Nat.reduceSub,Nat.reduceAdd]
 repeat (go_big_quiet_step (fail))
 refine wpQuiet_nil ?_;rintro _ ⟨nq,rfl⟩;go_wp2_with fail;refine bodyPost_ret (v:=.int .i64 (l.getLastD 0)) (by simp[results,Tryz.results34,go_sem]) rfl ?_;exact⟨rfl,nq,rfl⟩
theorem DD (w:World) (r B mb:Nat) (ver:Int) (sv:Value) (dead:Bool) (e0:Int) (h:w.heap[r]?=some (.cells (AF ver sv mb B dead) 51 (0,0))) :
  Calls Tryz.prog 36 #[.pointer (some ⟨r,0,none⟩),.int .i64 e0] w λe w'=>e=.returned (.int .i64 e0)∧w'.heap[r]?=some (.cells (AF ver sv mb B (dead||decide (e0≠0))) 51 (0,0))∧∀own,SFr r own own w w':=by
 have E:=rc0 h;have H:=rc1 h;have F:=rc2 h;have D:=rc3 h;have G:=rc4 h;have C:=AE h 4;have A:=QA h;clear h;go_enter Tryz.func36,Tryz.ntmps36;cases dead with
 | true =>
  go_wp2_with fail;refine bodyPost_ret (v:=.int .i64 e0) (by simp[results,Tryz.results36,go_sem]) rfl ?_;exact⟨rfl,heap_set A.out _,λown=>SFr.set w 4 _⟩
 | false =>
  by_cases he:e0=0
  ·have o:(e0 != 0)=false:=by rw[he];rfl
   go_wp2_with fail;refine bodyPost_ret (v:=.int .i64 e0) (by simp[results,Tryz.results36,go_sem]) rfl ?_;refine⟨rfl,?_,λown=>SFr.set w 4 _⟩;rw[he];exact heap_set A.out _
  ·have o:(e0 != 0)=true:=bne_iff_ne.2 he;go_wp2_with fail;refine bodyPost_ret (v:=.int .i64 e0) (by simp[results,Tryz.results36,go_sem]) rfl ?_;refine⟨rfl,?_,λown=>SFr.set w 4 _⟩;rw[decide_eq_true he];exact heap_set A.out _
theorem Cg (w:World) (r B mb:Nat) (ver:Int) (sv:Value) (dead:Bool) (h:w.heap[r]?=some (.cells (AF ver sv mb B dead) 51 (0,0))) :
  Calls Tryz.prog 18 #[.pointer (some ⟨r,0,none⟩)] w λe w'=>e=.returned (.bool dead)∧w'=w:=by
 have A:=rc0 h;have E:=rc1 h;have C:=rc2 h;have o:=rc3 h;have D:=rc4 h;go_enter Tryz.func18,Tryz.ntmps18;go_wp2_with fail;refine bodyPost_ret (v:=.bool dead) (by simp[results,Tryz.results18,go_sem]) rfl ?_;exact⟨rfl,rfl⟩
theorem FI (w:World) (r B mb:Nat) (ver:Int) (sv:Value) (dead:Bool) (l:List Int) (h:w.heap[r]?=some (.cells (AF ver sv mb B dead) 51 (0,0))) (hN:Ints w sv l) (hl:l.length≤1000000) :
  Calls Tryz.prog 23 #[.pointer (some ⟨r,0,none⟩)] w λe w'=>∃v',e=.returned v'∧Ah w' w.heap.size v' l∧Below w.heap.size w w':=by
 obtain⟨K,M,rfl⟩:=hN.form;have I:=rc0 h;have N:=rc1 h;have J:=rc2 h;have H:=rc3 h;have L:=rc4 h;have C:=QA hN;clear hN;go_enter Tryz.func23,Tryz.ntmps23;go_wp2_with fail;refine (C0 _ l w C.out hl).mono ?_;rintro e w1 ⟨v',rfl,ho,hb1⟩;obtain⟨o,A,D,F,_⟩:=Ah.form3 ho;subst F;have E:=QA ho;have G:=QA hb1;clear ho hb1;go_wp2_with fail;refine bodyPost_ret (v:=.slice o A D) (by simp[results,Tryz.results23,go_sem]) rfl ?_;exact⟨_,rfl,E.out,G.out⟩
end Go.Proofs.YtjldahcckmmenaaGreatDoor
