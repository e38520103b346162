/-
  The store: slices.Clone of bytes; changes, walked. The store: a change's bytes, walked. The store: Get, BL, met, Segs, ReadOnly, walked.
-/
import Derived.Test.YtjldahcckmmenaaGreatDoorZd12
import Derived.Test.YtjldahcckmmenaaGreatDoorZd6
import Derived.Maps.Own
import Derived.Maps.OwnSet
import Derived.Test.YtjldahcckmmenaaGreatDoorZd9
open Array renaming getInternal_eq_getElem → QD
open Go.Lib renaming hid → QA
open List renaming setIfInBounds_toArray → QC, drop_succ_cons → QE, take_succ_cons → QF, set_cons_succ → QG, set_cons_zero → QH, getElem_cons_zero → QI, getElem_cons_succ → QJ, getElem_toArray → QK, drop_zero → QL, take_zero → QN
open Nat renaming le_refl → QM
namespace Go.Proofs.YtjldahcckmmenaaGreatDoor
set_option maxRecDepth 100000
set_option maxHeartbeats 4000000
set_option linter.unusedSimpArgs false
set_option linter.unusedVariables false
open Go Go.RowKit
open Go.Maps Go.WideMaps
theorem JP {w wl w5:World} {v:Value} {base:Nat} {l:List UInt8} (hb:Below w.heap.size w wl) (hO:Ag wl base v l) (hbase:w.heap.size≤base) (hg:wl.grownBy w5 v.ownBlock):Below w.heap.size w w5 :=
 hb.grown hg hb.size λk e=>Nat.le_trans hbase (hO.lt k e).1
theorem JA (v:Value) (l:List UInt8) (w:World) (h:AZ w v l) (hl:l.length≤1000000000) :
  Calls Tryz.prog 40 #[v] w λe w'=>∃v',e=.returned v'∧Ag w' w.heap.size v' l∧Below w.heap.size w w':=by
 have N:∀(w:World) (a:Option Addr) (n c n' c':Nat),(binOp .eql 41 (.slice a n c) (.slice none n' c')).run Tryz.prog w=.ok (.bool a.isNone) w:=λw a n c n' c'=>Lib.run_eql_slice_nil w _ _ a n c n' c' Tryz.underlying41
 obtain⟨a,c,rfl,O,L⟩:=h.form2;cases a with
 | none =>
  have J:l=[]:=by
   have:=L rfl;exact List.length_eq_zero_iff.1 (by omega)
  subst J;refine (AnyE.slices_Clone_nil Bp 0 c w).mono ?_;rintro e w' ⟨rfl,rfl⟩;exact⟨_,rfl,World.ownsRow_nil _ _ _ _,Below.refl _ _⟩
 | some p =>
  have A:Hid (Ag (w.alloc (.cells #[] 5)) w.heap.size (.slice (some ⟨w.heap.size,0,none⟩) 0 0) []) :=
   QA (World.ownsRow_lit (base:=w.heap.size) (e:=5) (size:=1) w #[] 0 (QM _) (by unfold maxLen;omega) rfl)
  have o:Below w.heap.size w (w.alloc (.cells #[] 5)):=(Below.refl _ _).alloc (QM _) _;have E:=QA (h.below o);have F:=o.size;have C:=QA o;clear o h;go_enter Tryz.func40,Tryz.ntmps40;go_wp2_with (first|(at_builtin;refine BF rfl _ _ rfl w.heap.size (.slice (some ⟨w.heap.size,0,none⟩) 0 0) [] rfl A.out (.slice (some p) l.length c) l rfl E.out (by simp;omega) F ?_;intro d' w5 hown hgrow hloc;clear hloc;have B:=QA hown;have D:=QA hgrow;obtain⟨K,M,I,G,H⟩:=Ag.form3 hown;subst G;clear hown hgrow)|fail);refine bodyPost_ret (v:=.slice K M I) (by simp[results,Tryz.results40,go_sem]) rfl ?_;exact⟨_,rfl,B.out,JP C.out A.out (QM _) D.out⟩
theorem Aw {ops:Array Oper} {S:World→Prop} {op:Oper} {a:Act} (hw:Region.wanted op (yielded ops a.tmps)=true) (x:Operand) (ho:op.op=.load 40 x) (b o:Nat) (hx:a.eval x=.pointer (some ⟨b,o,none⟩)) (k:List UInt8) (hk:k.length=32)
  (hS:∀w,S w→w.rangeAt b o (AH k)):YieldsIf Tryz.prog ops S op (Ah k) a :=
 yieldsIf_load_mid hw _ x ho b o hx (AH k) _ hS Tryz.underlying40 rfl (by rw[AP,hk];kernel_rfl)
theorem Ag.bytF {w:World} {base:Nat} {F:Nat→Prop} {v:Value} {l:List UInt8} (h:Ag w base v l) (hF:∀b,base≤b→F b):Ax w F v l :=
 ⟨h.byts,λp n c e _=>hF _ (h.lt p.block (by rw[e];rfl)).1⟩
theorem Ag.slice {w:World} {base:Nat} {v:Value} {l:List UInt8} (h:Ag w base v l):∃a c,v=.slice a l.length c:=by
 obtain⟨a,c,e,_⟩:=h.byts.form;exact⟨a,c,e⟩
abbrev Bt (mb:Nat) (w w':World):Prop:=SFr mb (λ_=>Tag.other) (λ_=>Tag.other) w w'
theorem Bt.grown {mb:Nat} {w w':World} (h:w.grownBy w' (some mb)):Bt mb w w' :=
 ⟨h.os,h.tape,h.output,h.size,λ_ _=>rfl,λb hb _ hne=>h.block b hb (λe=>hne (Option.some.inj e))⟩
theorem Bt.mv {mb:Nat} {G:Nat→Prop} {w w':World} (h:Bt mb w w') (hG:∀b,G b→b≠mb):MV G G w w':=⟨h.size,λb hb hg=>⟨hg,h.block b hb rfl (hG b hg)⟩⟩
theorem Kc.of {w:World} {b n:Nat} {l:Sto.ME} (h:w.ownsMap Tryz.prog 40 Sto.elemR b n (Sto.datum l)):w.ownsMap Tryz.prog 40 Sto.elemR b l.length (Sto.datum l):=by
 obtain⟨C,o,D,F,E,B⟩:=h;refine⟨C,o,D,F,?_,B⟩;have A:=congrArg Maps.size B;rw[Sto.datum_size]at A;rw[A];simp[Maps.size,length_sorted]
namespace Sto
theorem mem_rins {x y:Op×Value}:∀{l:ME},y∈rins x l↔y=x∨y∈l
 | []=>by simp[rins]
 | z::r=>by
  unfold rins;split
  ·simp
  ·rw[List.mem_cons,mem_rins,List.mem_cons];constructor
   ·rintro (h|h|h)
    ·exact .inr (.inl h)
    ·exact .inl h
    ·exact .inr (.inr h)
   ·rintro (h|h|h)
    ·exact .inr (.inl h)
    ·exact .inl h
    ·exact .inr (.inr h)
theorem mem_rdel {k:List UInt8} {y:Op×Value} {l:ME} (h:y∈rdel l k):y∈l:=(List.mem_filter.1 h).1
theorem rdel_len (l:ME) (k:List UInt8):(rdel l k).length≤l.length:=List.length_filter_le _ _
theorem rins_len (x:Op×Value):∀l:ME,(rins x l).length=l.length+1
 | []=>rfl
 | y::r=>by
  unfold rins;split
  ·rfl
  ·rw[List.length_cons,rins_len x r,List.length_cons]
theorem take_step {l:List Op} {j:Nat} {o:Op} (h:l[j]?=some o) (E:Ents):chgs E (l.take (j+1))=chg (chgs E (l.take j)) o:=by
 rw[List.take_add_one,h];unfold chgs;rw[List.foldl_append];rfl
end Sto
structure A1 (w:World) (G:Nat→Prop) (mb:Nat) (l:Sto.ME):Prop where
 map:w.ownsMap Tryz.prog 40 Sto.elemR mb l.length (Sto.datum l)
 key:∀p∈l,p.1.1.length=32
 val:∀p∈l,Ax w G p.2 p.1.2.2
theorem A1.mv {G:Nat→Prop} {w w':World} {mb:Nat} {l:Sto.ME} (h:A1 w G mb l) (m:MV G G w w') (he:w'.heap[mb]?=w.heap[mb]?):A1 w' G mb l:=⟨ownsMap_at h.map he,h.key,λp hp=>(h.val p hp).mv m⟩
theorem A1.below {G:Nat→Prop} {w w':World} {mb:Nat} {l:Sto.ME} (h:A1 w G mb l) (hb:Below w.heap.size w w'):A1 w' G mb l:=h.mv (MV.below hb) (hb.block mb h.map.lt)
theorem CZ (mb:Nat) (l:Sto.ME) (v:Value) (ops:Sto.ME) (w:World) (G:Nat→Prop) (hG:∀b,G b→b≠mb) (hnew:∀b,w.heap.size≤b→G b) (hm:A1 w G mb l)
  (ho:Al w G v ops) (hol:ops.length≤1000000000) (hll:l.length≤1000000000) (hbl:∀p∈ops,p.1.2.2.length≤1000000000) :
  Calls Tryz.prog 32 #[.map (some mb),v] w λe w'=>e=.returned (.tuple #[])∧∃l',A1 w' G mb l'∧l'.map (·.1)=Sto.chgs (l.map (·.1)) (Sto.opsOf ops)∧Bt mb w w'∧l'.length≤l.length+ops.length:=by
 obtain⟨va,vc,rfl⟩:=ho.form;have H:=QA ho;have HM:=QA hm;clear ho hm;have aE:=Sto.opsOf_len ops;go_enter Tryz.func32,Tryz.ntmps32;go_wp2_with fail
 go_loopg [8] ops.length (λk s8 wr=>∃(j:Nat) (E:Sto.ME),j≤ops.length∧k=ops.length-j∧s8=.int .i64 (j:Nat)∧A1 wr G mb E∧E.map (·.1)=Sto.chgs (l.map (·.1)) ((Sto.opsOf ops).take j)∧Bt mb w wr∧E.length≤l.length+j)
 case atStart=>exact⟨0,l,Nat.zero_le _,rfl,rfl,HM.out,rfl,SFr.refl _ _ _,QM _⟩
 case round =>
  obtain⟨j,E,hj,hk,rfl,hM,ab,hB,aK⟩:=hrel;have HK:=QA hk;have X:=QA hB;have D:=QA hM;have U:=QA ab;clear hk hB hM ab;have aM:(0:Int)≤(j:Int):=Int.natCast_nonneg _;by_cases hjn:j<ops.length
  ·have ae:(j:Int)<(ops.length:Int):=by omega
   obtain⟨⟨o,pv⟩,C⟩:∃p,ops[j]?=some p:=⟨_,List.getElem?_eq_getElem hjn⟩
   obtain⟨B,ad,g,aa,rfl,hg,O⟩:=(H.out.mv (X.out.mv hG)).at C;have N:=ad.1;have aq:o.2.2.length≤1000000000:=hbl _ (List.mem_of_getElem? C);have T:=QA (Sto.take_step (Sto.opsOf_get C) (l.map (·.1)));obtain⟨I,J,af,aJ⟩:=N.form;simp only at af B N O T;subst af;have L:=Ad.new wr o (.slice I o.2.2.length J);have av:=L.cell (Au B _);have ap:=L.cell (Ae B _);have Q:=QA L;have P:=QA N;have A:=QA B;have HW:Hid (Below wr.heap.size wr (wr.alloc (.cells (AG o (.slice I o.2.2.length J)).toArray 43))):=QA ((Below.refl _ _).alloc (QM _) _);have R:=QA (D.out.below HW.out);have F:=B9 B;clear L N B C ad;by_cases hk3:o.2.1=0
   ·have ai:(o.2.1==0)=true:=by simpa using hk3
    go_wp2_with (first|(guard_target=wpList _ _ _ ({ dst:=_,op:=.load 43 _,type:=_,pos:=_,after:=_,guard:=none }::_) _ _;refine AJ rfl _ rfl g (aa+j*34) o (.slice I o.2.2.length J) A.out rfl O ?_)|(guard_target=wpList _ _ _ ({ dst:=_,op:=.store 43 _ _,type:=_,pos:=_,after:=_,guard:=none }::_) _ _;refine AL rfl _ _ rfl _ rfl o (.slice I o.2.2.length J) A.out P.out.one rfl rfl ?_)|(guard_target=wpList _ _ _ ({ dst:=_,op:=.load 40 _,type:=_,pos:=_,after:=_,guard:=none }::_) _ _;refine Ab rfl _ rfl wr.heap.size 0 o.1 A.out rfl Q.out.key ?_)|(at_delete;refine wpList_delete_own _ rfl _ _ 49 40 rfl 85 Av Tryz.underlying49 Sto.elemR mb _ _ rfl R.out.map _ _ rfl F ?_;intro w3 hown3 hturn3)|fail);have aA:Bt mb w w3:=X.out.trans ((SFr.below HW.out).trans (Bt.grown hturn3.grown));go_roundg (ops.length-(j+1))
    case measure=>rw[HK.out];omega
    case rel =>
     refine⟨j+1,Sto.rdel E o.1,by omega,rfl,by simp,⟨?_,λp C=>D.out.key p (Sto.mem_rdel C),λp C=>(R.out.val p (Sto.mem_rdel C)).mv ((Bt.grown hturn3.grown).mv hG)⟩,?_,aA,?_⟩
     ·rw[Sto.datum_del]at hown3;exact Kc.of hown3
     ·rw[Sto.rdel_ops,U.out,T.out,Sto.chg,if_pos hk3]
     ·have:=Sto.rdel_len E o.1;omega
   ·have ai:(o.2.1==0)=false:=by simpa using hk3
    go_wp2_with (first|(guard_target=wpList _ _ _ ({ dst:=_,op:=.load 43 _,type:=_,pos:=_,after:=_,guard:=none }::_) _ _;refine AJ rfl _ rfl g (aa+j*34) o (.slice I o.2.2.length J) A.out rfl O ?_)|(guard_target=wpList _ _ _ ({ dst:=_,op:=.store 43 _ _,type:=_,pos:=_,after:=_,guard:=none }::_) _ _;refine AL rfl _ _ rfl _ rfl o (.slice I o.2.2.length J) A.out P.out.one rfl rfl ?_)|fail);obtain⟨W,hA⟩:∃x,wr.alloc (.cells (AG o (.slice I o.2.2.length J)).toArray 43)=x:=⟨_,rfl⟩
    rw[hA]at Q HW av ap ⊢;clear hA R;refine AM (λw'=>Ad w' wr.heap.size o (.slice I o.2.2.length J)) 10 (by kernel_rfl) ?_;have K:Ad { W with drawn:=W.drawn+1 } wr.heap.size o (.slice I o.2.2.length J):=Q.out;have V:Below wr.heap.size wr { W with drawn:=W.drawn+1 }:=Below.drewN HW.out 1;obtain⟨wD,hD⟩:∃x:World,{ W with drawn:=W.drawn+1 }=x:=⟨_,rfl⟩
    rw[hD]at K V ⊢;have S:=QA V;have az:=S.out.size;clear hD V;refine TK (i:=0) (v:=.map (some mb)) rfl (Or.inl ⟨by rfl,λw hSw=>by go_simp⟩) K ?_;simp only[Act.put,QD,QK,QI,QJ,QC,QH,QG];refine TK (i:=1) (v:=.pointer (some ⟨wr.heap.size,0,none⟩)) rfl (Or.inl ⟨by rfl,λw hSw=>by go_simp⟩) K ?_;simp only[Act.put,QD,QK,QI,QJ,QC,QH,QG];refine TK (i:=2) (v:=Ah o.1) rfl (Aw rfl _ rfl wr.heap.size 0 rfl o.1 A.out (λw hSw=>hSw.key)) K ?_;simp only[Act.put,QD,QK,QI,QJ,QC,QH,QG];refine TK (i:=3) (v:=.pointer (some ⟨wr.heap.size,32,none⟩)) rfl (Or.inl ⟨by rfl,λw hSw=>by go_simp⟩) K ?_;simp only[Act.put,QD,QK,QI,QJ,QC,QH,QG];refine TK (i:=4) (v:=.int .i64 o.2.1) rfl (Or.inl ⟨by rfl,λw hSw=>by have au:=hSw.cell (Au A.out _);go_simp⟩) K ?_;simp only[Act.put,QD,QK,QI,QJ,QC,QH,QG];refine TK (i:=5) (v:=.pointer (some ⟨wr.heap.size,33,none⟩)) rfl (Or.inl ⟨by rfl,λw hSw=>by go_simp⟩) K ?_;simp only[Act.put,QD,QK,QI,QJ,QC,QH,QG];refine TK (i:=6) (v:=.slice I o.2.2.length J) rfl (Or.inl ⟨by rfl,λw hSw=>by have au:=hSw.cell (Ae A.out _);go_simp⟩) K ?_;simp only[Act.put,QD,QK,QI,QJ,QC,QH,QG];refine TO (i:=7) ?_;refine AD (by decide) (λK7 HK7=>?_);simp only[QE,QL,QF,QN];go_wp2_with fail;refine (JA _ o.2.2 _ (P.out.below S.out) aq).mono ?_;rintro e w2 ⟨v',rfl,ho2,hb2⟩;obtain⟨ca,cc,ar⟩:=ho2.slice;subst ar;have ay:=QA ho2;have aj:=QA (S.out.trans (hb2.mono az));have M:=K.keep hb2;have ak:=QA (D.out.below aj.out);have Z:=Sto.elemR_mk o.2.1 ca o.2.2.length cc;clear ho2 hb2;go_wp2;refine HK7.out _ _ ⟨λ_=>M,?_⟩;clear HK7;refine TO (i:=8) ?_;refine AD (by decide) (λK8 HK8=>?_);simp only[QE,QL,QF,QN];go_wp2_with fail;refine HK8.out _ _ ⟨λ_=>M,?_⟩;clear HK8;refine TO (i:=9) ?_;refine AD (by decide) (λK9 HK9=>?_);simp only[QE,QL,QF,QN];go_wp2_with (first|(at_mapUpdate;refine wpList_mapUpdate_own _ rfl _ _ _ 49 rfl 40 85 Av Tryz.underlying49 Sto.elemR mb E.length _ rfl ak.out.map (by unfold maxLen;omega) _ _ _ rfl rfl F _ [] Z ?_;intro w4 hown4 hgrow4)|fail);have ah:mb≠wr.heap.size:=Nat.ne_of_lt D.out.map.lt;have aw:Ad w4 wr.heap.size o (.slice I o.2.2.length J):=(hgrow4.block _ (AC M) (λe=>ah (Option.some.inj e).symm)).trans M;have ac:Bt mb wr w4:=(SFr.below aj.out).trans (Bt.grown hgrow4);have Y:w4.ownsMap Tryz.prog 40 Sto.elemR mb (E.length+1) (Sto.datum (Sto.rins (o,.slice ca o.2.2.length cc) (Sto.rdel E o.1))):=by
     rw[← Sto.datum_put];exact hown4
    have ax:=QA (Kc.of Y);have ao:=QA ac;have ag:Hid (MV G G w2 w4):=QA ((Bt.grown hgrow4).mv hG);clear hown4 hgrow4 Y ac;refine HK9.out _ _ ⟨λ_=>aw,?_⟩;clear HK9;refine AO (by kernel_rfl) ?_ _;go_wp2_with fail;go_roundg (ops.length-(j+1))
    case measure=>rw[HK.out];omega
    case rel =>
     refine⟨j+1,Sto.rins (o,.slice ca o.2.2.length cc) (Sto.rdel E o.1),by omega,rfl,by simp,⟨ax.out,λp C=>?_,λp C=>?_⟩,?_,X.out.trans ao.out,?_⟩
     ·rcases Sto.mem_rins.1 C with rfl|C
      ·exact A.out
      ·exact D.out.key p (Sto.mem_rdel C)
     ·rcases Sto.mem_rins.1 C with rfl|C
      ·have h5:Ax w2 G (.slice ca o.2.2.length cc) o.2.2:=ay.out.bytF λb hb=>hnew b (by have:=X.out.size;omega)
       exact h5.mv ag.out
      ·exact ((ak.out.val p (Sto.mem_rdel C))).mv ag.out
     ·rw[Sto.rins_ops,Sto.rdel_ops,U.out,T.out,Sto.chg,if_neg hk3]
     ·rw[Sto.rins_len];have:=Sto.rdel_len E o.1;omega
  ·have ae:(ops.length:Int)≤(j:Int):=by omega
   go_wp2_with fail;go_end0;exact⟨rfl,E,D.out,by rw[U.out,List.take_of_length_le (by omega)],X.out,by omega⟩
open Go.Maps Go.WideMaps
theorem CN {w:World} {g off:Nat} (l:List UInt8) (cap:Nat) (hc:l.length≤cap) (hg:g<w.heap.size) (h:∀(i:Nat) (x:UInt8),l[i]?=some x→w.cell? ⟨g,off+i,none⟩=some (.int .u8 x.toNat)):AZ w (.slice (some ⟨g,off,none⟩) l.length cap) l :=
 ⟨some ⟨g,off,none⟩,cap,rfl,hc,λe=>(by cases e),λi x hi=>⟨g,off,rfl,hg,h i x hi⟩⟩
theorem Ad.byts {w:World} {g:Nat} {o:Sto.Op} {v:Value} (h:Ad w g o v) (hk:o.1.length=32):AZ w (.slice (some ⟨g,0,none⟩) 32 32) o.1:=by
 have:=CN (w:=w) (g:=g) (off:=0) o.1 32 (by omega) (AC h) (λi x hi=>h.key i _ (by unfold AH;rw[List.getElem?_map,hi];rfl))
 rwa [hk]at this
theorem CE (o:Sto.Op) (v:Value) (w:World) (hk:o.1.length=32) (hkd:0≤o.2.1∧o.2.1≤9) (hv:AZ w v o.2.2) (hl:o.2.2.length≤8192) :
  Calls Tryz.prog 38 #[.agg (AG o v).toArray] w λe w'=>∃v',e=.returned v'∧Ag w' w.heap.size v' (Sto.bytes o)∧Below w.heap.size w w':=by
 obtain⟨M,N,rfl,ai⟩:=hv.form;have H:=Ad.new w o (.slice M o.2.2.length N);have W:=H.cell (Ae hk _);have Q:=QA H;have A:=QA hk;have HV:=QA hv;clear hv hk H;go_enter Tryz.func38,Tryz.ntmps38;go_wp2_with fail;obtain⟨I,X⟩:∃x,w.alloc (.cells (AG o (.slice M o.2.2.length N)).toArray 43)=x:=⟨_,rfl⟩
 have U:Below w.heap.size w I:=by rw[← X];exact (Below.refl _ _).alloc (QM _) _
 rw[X]at Q W ⊢;clear X;refine AM (λw'=>Ad w' w.heap.size o (.slice M o.2.2.length N)) 16 (by kernel_rfl) ?_;have B:Ad { I with drawn:=I.drawn+1 } w.heap.size o (.slice M o.2.2.length N):=Q.out;have L:Below w.heap.size w { I with drawn:=I.drawn+1 }:=Below.drewN U 1;obtain⟨F,hD⟩:∃x:World,{ I with drawn:=I.drawn+1 }=x:=⟨_,rfl⟩
 rw[hD]at B L ⊢;have R:=QA L;have aa:=R.out.size;clear hD L;refine TK (i:=0) (v:=.pointer (some ⟨w.heap.size,0,none⟩)) rfl (Or.inl ⟨by rfl,λw hSw=>by go_simp⟩) B ?_;simp only[Act.put,QD,QK,QI,QJ,QC,QH,QG];refine TK (i:=1) (v:=.slice (some ⟨w.heap.size,0,none⟩) 32 32) rfl (Or.inl ⟨by rfl,λw hSw=>by go_simp⟩) B ?_;simp only[Act.put,QD,QK,QI,QJ,QC,QH,QG];refine TK (i:=2) (v:=.pointer (some ⟨w.heap.size,32,none⟩)) rfl (Or.inl ⟨by rfl,λw hSw=>by go_simp⟩) B ?_;simp only[Act.put,QD,QK,QI,QJ,QC,QH,QG];refine TK (i:=3) (v:=.int .i64 o.2.1) rfl (Or.inl ⟨by rfl,λw hSw=>by have ac:=hSw.cell (Au A.out _);go_simp⟩) B ?_;simp only[Act.put,QD,QK,QI,QJ,QC,QH,QG];refine TK (i:=4) (v:=.int .u8 (IntKind.u8.wrap o.2.1)) rfl (Or.inl ⟨by rfl,λw hSw=>by go_simp⟩) B ?_;simp only[Act.put,QD,QK,QI,QJ,QC,QH,QG];refine TK (i:=5) (v:=.int .i64 (o.2.2.length:Nat)) rfl (Or.inl ⟨by rfl,λw hSw=>by go_simp⟩) B ?_;simp only[Act.put,QD,QK,QI,QJ,QC,QH,QG];refine TK (i:=6) (v:=.int .u8 (IntKind.u8.wrap (o.2.2.length:Nat))) rfl (Or.inl ⟨by rfl,λw hSw=>by go_simp⟩) B ?_;simp only[Act.put,QD,QK,QI,QJ,QC,QH,QG];refine TK (i:=7) (v:=.int .i64 (o.2.2.length:Nat)) rfl (Or.inl ⟨by rfl,λw hSw=>by go_simp⟩) B ?_;simp only[Act.put,QD,QK,QI,QJ,QC,QH,QG];refine TK (i:=8) (v:=.int .i64 ((o.2.2.length:Int) / 256)) rfl (Or.inl ⟨by rfl,λw hSw=>by go_simp⟩) B ?_;simp only[Act.put,QD,QK,QI,QJ,QC,QH,QG];refine TK (i:=9) (v:=.int .u8 (IntKind.u8.wrap ((o.2.2.length:Int) / 256))) rfl (Or.inl ⟨by rfl,λw hSw=>by go_simp⟩) B ?_;simp only[Act.put,QD,QK,QI,QJ,QC,QH,QG];refine TK (i:=11) (v:=.pointer (some ⟨w.heap.size,33,none⟩)) rfl (Or.inl ⟨by rfl,λw hSw=>by go_simp⟩) B ?_;simp only[Act.put,QD,QK,QI,QJ,QC,QH,QG];refine TK (i:=12) (v:=.slice M o.2.2.length N) rfl (Or.inl ⟨by rfl,λw hSw=>by have ac:=hSw.cell (Ae A.out _);go_simp⟩) B ?_;simp only[Act.put,QD,QK,QI,QJ,QC,QH,QG];refine TO (i:=10) ?_;refine AD (by decide) (λK10 HK10=>?_);simp only[QE,QL,QF,QN];go_wp2_with fail;have J:Below F.heap.size F (F.alloc (.cells #[.int .u8 o.2.1,.int .u8 ((o.2.2.length:Int) % 256),.int .u8 ((o.2.2.length:Int) / 256)] 5)):=(Below.refl _ _).alloc (QM _) _;have C:=AK F (.cells #[.int .u8 o.2.1,.int .u8 ((o.2.2.length:Int) % 256),.int .u8 ((o.2.2.length:Int) / 256)] 5);have E:=B.keep J;have D:=QA (R.out.trans (J.mono aa));have P:=D.out.size;have Z:Hid (AZ (F.alloc (.cells #[.int .u8 o.2.1,.int .u8 ((o.2.2.length:Int) % 256),.int .u8 ((o.2.2.length:Int) / 256)] 5)) (.slice (some ⟨F.heap.size,0,none⟩) 3 3) [UInt8.ofNat o.2.1.toNat,UInt8.ofNat (o.2.2.length % 256),UInt8.ofNat (o.2.2.length / 256 % 256)]):=by
  refine QA (CN (off:=0) [UInt8.ofNat o.2.1.toNat,UInt8.ofNat (o.2.2.length % 256),UInt8.ofNat (o.2.2.length / 256 % 256)] 3 (QM _) (AC C) λi x hi=>?_)
  match i,hi with
  | 0,hi =>
   simp at hi;subst hi;refine (AA C 0 _ rfl).trans ?_;rw[UInt8.toNat_ofNat_of_lt' (by show _<256;omega),show ((o.2.1.toNat:Nat):Int)=o.2.1 by omega];rfl
  | 1,hi =>
   simp at hi;subst hi;refine (AA C 1 _ rfl).trans ?_;rw[UInt8.toNat_ofNat_of_lt' (by show _<256;omega)]
   congr 2
  | 2,hi =>
   simp at hi;subst hi;refine (AA C 2 _ rfl).trans ?_;rw[UInt8.toNat_ofNat_of_lt' (by show _<256;omega),show ((o.2.2.length / 256 % 256:Nat):Int)=(o.2.2.length:Int) / 256 by omega];rfl
  | i+3,hi=>simp at hi
 obtain⟨wE,hE⟩:∃x,F.alloc (.cells #[.int .u8 o.2.1,.int .u8 ((o.2.2.length:Int) % 256),.int .u8 ((o.2.2.length:Int) / 256)] 5)=x:=⟨_,rfl⟩
 rw[hE]at Z E D P ⊢;have HP:=QA (E8 41 (E.byts A.out) Z.out (HV.out.below D.out));have G:Below wE.heap.size wE (wE.alloc (.cells #[.slice (some ⟨w.heap.size,0,none⟩) 32 32,.slice (some ⟨F.heap.size,0,none⟩) 3 3,.slice M o.2.2.length N] 41)):=(Below.refl _ _).alloc (QM _) _;have T:=E.keep G;have K:=QA (D.out.trans (G.mono P));clear hE C J G Z;refine HK10.out _ _ ⟨λ_=>E,?_⟩;clear HK10;refine TO (i:=13) ?_;refine AD (by decide) (λK13 HK13=>?_);simp only[QE,QL,QF,QN];go_wp2_with fail;refine HK13.out _ _ ⟨λ_=>T,?_⟩;clear HK13;refine TO (i:=14) ?_;refine AD (by decide) (λK14 HK14=>?_);simp only[QE,QL,QF,QN];go_wp2_with fail;have O:[o.1,[UInt8.ofNat o.2.1.toNat,UInt8.ofNat (o.2.2.length % 256),UInt8.ofNat (o.2.2.length / 256 % 256)],o.2.2].flatten=Sto.bytes o:=by unfold Sto.bytes;simp
 refine (Cr _ _ _ HP.out (by simp) (by rw[O,Sto.bytes_len A.out];omega)).mono ?_;rintro e w3 ⟨v',rfl,ho3,hb3⟩;rw[O]at ho3;have S:=T.keep hb3;have Y:=QA (K.out.trans (hb3.mono K.out.size));have ad:=QA (ho3.mono K.out.size);obtain⟨ca,cc,V⟩:=ho3.slice;subst V;clear ho3 hb3;go_wp2;refine HK14.out _ _ ⟨λ_=>S,?_⟩;clear HK14;refine TO (i:=15) ?_;refine AD (by decide) (λK15 HK15=>?_);simp only[QE,QL,QF,QN];go_wp2_with fail;refine HK15.out _ _ ⟨λ_=>S,?_⟩;clear HK15;refine AO (by kernel_rfl) ?_ _;go_wp2_with fail;refine bodyPost_ret (v:=.slice ca (Sto.bytes o).length cc) (by simp[results,Tryz.results38,go_sem]) rfl ?_;exact⟨_,rfl,ad.out,Y.out⟩
open Go.Maps Go.WideMaps
namespace Sto
def getE (E:Ents) (k:List UInt8):Int×List UInt8×Bool:=match E.find? (λe=>e.1==k) with
 | some e=>(e.2.1,e.2.2,true)
 | none=>(0,[],false)
theorem getE_some {l:ME} {k:List UInt8} {p:Op×Value} (h:l.find? (λp=>p.1.1==k)=some p):getE (l.map (·.1)) k=(p.1.2.1,p.1.2.2,true):=by
 unfold getE;rw[List.find?_map,show ((λe:Op=>e.1==k)∘λx:Op×Value=>x.1)=λp=>p.1.1==k from rfl,h];rfl
theorem getE_none {l:ME} {k:List UInt8} (h:l.find? (λp=>p.1.1==k)=none):getE (l.map (·.1)) k=(0,[],false):=by
 unfold getE;rw[List.find?_map,show ((λe:Op=>e.1==k)∘λx:Op×Value=>x.1)=λp=>p.1.1==k from rfl,h];rfl
end Sto
theorem J0 (w:World):(zeroValue 85).run Tryz.prog w=.ok (.agg #[.int .i64 0,.slice none 0 0]) w:=by kernel_rfl
theorem BU (w:World) (k:List UInt8):(w.alloc (.cells (AH k).toArray 40)).rangeAt w.heap.size 0 (AH k):=λj u hj=>by
 rw[Nat.zero_add];exact AA (AK w _) j u (by simpa using hj)
theorem JW {l:Sto.ME} {k:List UInt8} {v:Value} {ps:List MemPlace} (h:Sto.elemR v=some ((Sto.datum l).atKey (.string k) (.held (.agg #[.int .i64 0,.slice none 0 0])),ps)) {w:World} {G:Nat→Prop} {mb:Nat} (hm:A1 w G mb l) :
  ∃a c,v=.agg #[.int .i64 (Sto.getE (l.map (·.1)) k).1,.slice a (Sto.getE (l.map (·.1)) k).2.1.length c]∧Ax w G (.slice a (Sto.getE (l.map (·.1)) k).2.1.length c) (Sto.getE (l.map (·.1)) k).2.1∧Maps.has (Sto.datum l) (.string k)=(Sto.getE (l.map (·.1)) k).2.2:=by
 have A:=(Prod.mk.inj (Sto.elemR_inv h)).1;rw[Sto.datum_find]at A;rw[Sto.datum_has];cases hf:l.find? (λp=>p.1.1==k) with
 | none =>
  rw[hf]at A;rw[Sto.getE_none hf];have B:v=.agg #[.int .i64 0,.slice none 0 0]:=by simpa using A.symm
  refine⟨none,0,B,⟨⟨none,0,rfl,QM _,λ_=>rfl,λi x hi=>by simp at hi⟩,λp n c e _=>by simp at e⟩,?_⟩;rw[List.find?_eq_none]at hf;cases hx:l.any λp=>p.1.1==k
  ·rfl
  ·obtain⟨p,D,e⟩:=List.any_eq_true.1 hx;exact absurd e (hf p D)
 | some p =>
  rw[hf]at A;rw[Sto.getE_some hf];have o:=List.mem_of_find?_eq_some hf;have C:=hm.val p o;obtain⟨a,c,e,_⟩:=C.1.form;have B:v=Sto.elemV p.1 p.2:=by simpa using A.symm
  refine⟨a,c,by rw[B,Sto.elemV,e],by rw[← e];exact C,?_⟩;rw[List.any_eq_true];exact⟨p,o,(List.find?_some (p:=λp:Sto.Op×Value=>p.1.1==k) hf)⟩
theorem C4 (mb:Nat) (l:Sto.ME) (k:List UInt8) (w:World) (G:Nat→Prop) (hm:A1 w G mb l) (hk:k.length=32) (hl:(Sto.getE (l.map (·.1)) k).2.1.length≤1000000000) :
  Calls Tryz.prog 14 #[.map (some mb),.agg (AH k).toArray] w λe w'=>∃v',e=.returned (.tuple #[.int .i64 (Sto.getE (l.map (·.1)) k).1,v',.bool (Sto.getE (l.map (·.1)) k).2.2])∧Ag w' w.heap.size v' (Sto.getE (l.map (·.1)) k).2.1∧Below w.heap.size w w':=by
 have A:Below w.heap.size w (w.alloc (.cells (AH k).toArray 40)):=(Below.refl _ _).alloc (QM _) _;have HR:=QA (BU w k);have V:=QA (hm.below A);have T:=B9 hk;obtain⟨⟨I,val,hs⟩,N⟩:∃x,Sto.getE (l.map (·.1)) k=x:=⟨_,rfl⟩
 rw[N]at hl ⊢;simp only at hl ⊢;have ab:=QA N;clear N;have U:=QA hk;clear hm hk;go_enter Tryz.func14,Tryz.ntmps14;go_wp2_with (first|(guard_target=wpList _ _ _ ({ dst:=_,op:=.load 40 _,type:=_,pos:=_,after:=_,guard:=none }::_) _ _;refine Ab rfl _ rfl w.heap.size 0 k U.out rfl HR.out ?_)|(at_lookup;refine wpList_lookup_own_ok _ rfl _ _ 49 rfl 40 85 Av Tryz.underlying49 Sto.elemR (J0 _) _ [] (Sto.elemR_mk 0 none 0 0) mb l.length _ rfl V.out.map _ _ rfl T ?_;intro v ps hv;obtain⟨K,Q,L,C,E⟩:=JW hv V.out;rw[ab.out]at L C E;simp only at L C E;subst L;rw[E];have W:=QA C.1;clear hv C E)|fail);obtain⟨B,Y⟩:∃x,w.alloc (.cells (AH k).toArray 40)=x:=⟨_,rfl⟩
 have S:B.heap.size=w.heap.size+1:=by rw[← Y];simp
 rw[Y]at W A ⊢;rw[← S];clear Y HR V;have Z:=AK B (.cells #[.int .i64 I,.slice K val.length Q] 85);have o:Below B.heap.size B (B.alloc (.cells #[.int .i64 I,.slice K val.length Q] 85)):=(Below.refl _ _).alloc (QM _) _;have O:=QA (W.out.below o);have P:=A.trans (o.mono A.size);obtain⟨D,hB⟩:∃x,B.alloc (.cells #[.int .i64 I,.slice K val.length Q] 85)=x:=⟨_,rfl⟩
 rw[hB]at Z P O ⊢;clear hB o A W S;refine AM (λw'=>w'.heap[B.heap.size]?=some (.cells #[.int .i64 I,.slice K val.length Q] 85 (0,0))) 9 (by kernel_rfl) ?_;have H:({ D with drawn:=D.drawn+1 }:World).heap[B.heap.size]?=some (.cells #[.int .i64 I,.slice K val.length Q] 85 (0,0)):=Z;have R:Below w.heap.size w { D with drawn:=D.drawn+1 }:=Below.drewN P 1;have J:AZ { D with drawn:=D.drawn+1 } (.slice K val.length Q) val:=O.out.below (Below.drewN (Below.refl _ D) 1);obtain⟨wD,hD⟩:∃x:World,{ D with drawn:=D.drawn+1 }=x:=⟨_,rfl⟩
 rw[hD]at H R J ⊢;have M:=QA R;have aa:=QA J;clear hD R J P O Z;refine TK (i:=0) (v:=.pointer (some ⟨B.heap.size,0,none⟩)) rfl (Or.inl ⟨by rfl,λw hSw=>by go_simp⟩) H ?_;simp only[Act.put,QD,QK,QI,QJ,QC,QH,QG];refine TK (i:=1) (v:=.int .i64 I) rfl (Or.inl ⟨by rfl,λw hSw=>by have ae:=AA hSw 0 _ rfl;go_simp⟩) H ?_;simp only[Act.put,QD,QK,QI,QJ,QC,QH,QG];refine TK (i:=2) (v:=.pointer (some ⟨B.heap.size,1,none⟩)) rfl (Or.inl ⟨by rfl,λw hSw=>by go_simp⟩) H ?_;simp only[Act.put,QD,QK,QI,QJ,QC,QH,QG];refine TK (i:=3) (v:=.slice K val.length Q) rfl (Or.inl ⟨by rfl,λw hSw=>by have ae:=AA hSw 1 _ rfl;go_simp⟩) H ?_;simp only[Act.put,QD,QK,QI,QJ,QC,QH,QG];refine TK (i:=5) (v:=.bool hs) rfl (Or.inl ⟨by rfl,λw hSw=>by go_simp⟩) H ?_;simp only[Act.put,QD,QK,QI,QJ,QC,QH,QG];refine TO (i:=4) ?_;refine AD (by decide) (λK4 HK4=>?_);simp only[QE,QL,QF,QN];go_wp2_with fail;refine (JA _ val _ aa.out hl).mono ?_;rintro e w2 ⟨v',rfl,ho2,o⟩;obtain⟨ca,cc,X⟩:=ho2.slice;subst X;have F:=(o.block _ (AC H)).trans H;have ad:=QA (M.out.trans (o.mono M.out.size));have ac:=QA (ho2.mono M.out.size);clear ho2 o;go_wp2;refine HK4.out _ _ ⟨λ_=>F,?_⟩;clear HK4;refine TO (i:=6) ?_;refine AD (by decide) (λK6 HK6=>?_);simp only[QE,QL,QF,QN];go_wp2_with fail;refine HK6.out _ _ ⟨λ_=>F,?_⟩;clear HK6;refine TO (i:=7) ?_;refine AD (by decide) (λK7 HK7=>?_);simp only[QE,QL,QF,QN];go_wp2_with fail;refine HK7.out _ _ ⟨λ_=>F,?_⟩;clear HK7;refine TO (i:=8) ?_;refine AD (by decide) (λK8 HK8=>?_);simp only[QE,QL,QF,QN];go_wp2_with fail;refine HK8.out _ _ ⟨λ_=>F,?_⟩;clear HK8;refine AO (by kernel_rfl) ?_ _;go_wp2_with fail;refine bodyPost_ret (v:=.tuple #[.int .i64 I,.slice ca val.length cc,.bool hs]) (by simp[results,Tryz.results14,go_sem]) rfl ?_;exact⟨_,rfl,ac.out,ad.out⟩
section
variable {w : World} {r B mb : Nat} {ver : Int} {sv : Value} {dead : Bool} (h : w.heap[r]? = some (.cells (AF ver sv mb B dead) 51 (0, 0)))
include h
theorem rc0:w.cell? ⟨r,0,none⟩=some (.int .i64 ver):=AA h 0 _ rfl
theorem rc1:w.cell? ⟨r,1,none⟩=some (sv):=AA h 1 _ rfl
theorem rc2:w.cell? ⟨r,2,none⟩=some (.map (some mb)):=AA h 2 _ rfl
theorem rc3:w.cell? ⟨r,3,none⟩=some (.pointer (some ⟨B,0,none⟩)):=AA h 3 _ rfl
theorem rc4:w.cell? ⟨r,4,none⟩=some (.bool dead):=AA h 4 _ rfl
end
theorem Jn {l:List Int} (h:l≠[]):l[l.length-1]?=some (l.getLastD 0):=by
 rw[← List.getLast?_eq_getElem?,List.getLast?_eq_some_getLast h,List.getLastD_eq_getLast?,List.getLast?_eq_some_getLast h];rfl
theorem A9 (w:World) (r B mb:Nat) (ver:Int) (sv:Value) (dead:Bool) (l:List Int) (h:w.heap[r]?=some (.cells (AF ver sv mb B dead) 51 (0,0))) (hN:Ints w sv l) (hne:l≠[]) (hl:l.length≤1000000) :
  Calls Tryz.prog 34 #[.pointer (some ⟨r,0,none⟩)] w λe w'=>e=.returned (.int .i64 (l.getLastD 0))∧∃n,w'=w.drewN n:=by
 obtain⟨E,H,rfl⟩:=hN.form;have o:0<l.length:=List.length_pos_iff.2 hne;obtain⟨g,A,rfl,N,K⟩:=hN.at (Jn hne);have F:((l.length:Int)-1).toNat=l.length-1:=by omega
 have J:(0:Int)≤(l.length:Int)-1:=by omega
 have C:(l.length:Int)-1<(l.length:Int):=by omega
 have M:((l.length-1:Nat):Int)=(l.length:Int)-1:=by omega
 have G:=rc0 h;have D:=rc1 h;have I:=rc2 h;have O:=rc3 h;have L:=rc4 h;go_enter Tryz.func34,Tryz.ntmps34;go_wp2_with fail;refine Ai [] (by kernel_rfl) (by kernel_rfl) ?_;simp only[Bo,QF,QN,QE,QL,Nat.sub_zero,Nat.reduceSub,Nat.reduceAdd]
 repeat (go_big_quiet_step (fail))
 refine wpQuiet_nil ?_;rintro _ ⟨nq,rfl⟩;go_wp2_with fail;refine bodyPost_ret (v:=.int .i64 (l.getLastD 0)) (by simp[results,Tryz.results34,go_sem]) rfl ?_;exact⟨rfl,nq,rfl⟩
theorem B6 (w:World) (r B mb:Nat) (ver:Int) (sv:Value) (dead:Bool) (e0:Int) (h:w.heap[r]?=some (.cells (AF ver sv mb B dead) 51 (0,0))) :
  Calls Tryz.prog 36 #[.pointer (some ⟨r,0,none⟩),.int .i64 e0] w λe w'=>e=.returned (.int .i64 e0)∧w'.heap[r]?=some (.cells (AF ver sv mb B (dead||decide (e0≠0))) 51 (0,0))∧∀own,SFr r own own w w':=by
 have D:=rc0 h;have C:=rc1 h;have E:=rc2 h;have H:=rc3 h;have G:=rc4 h;have F:=AE h 4;have o:=QA h;clear h;go_enter Tryz.func36,Tryz.ntmps36;cases dead with
 | true =>
  go_wp2_with fail;refine bodyPost_ret (v:=.int .i64 e0) (by simp[results,Tryz.results36,go_sem]) rfl ?_;exact⟨rfl,heap_set o.out _,λown=>SFr.set w 4 _⟩
 | false =>
  by_cases he:e0=0
  ·have A:(e0 != 0)=false:=by rw[he];rfl
   go_wp2_with fail;refine bodyPost_ret (v:=.int .i64 e0) (by simp[results,Tryz.results36,go_sem]) rfl ?_;refine⟨rfl,?_,λown=>SFr.set w 4 _⟩;rw[he];exact heap_set o.out _
  ·have A:(e0 != 0)=true:=bne_iff_ne.2 he;go_wp2_with fail;refine bodyPost_ret (v:=.int .i64 e0) (by simp[results,Tryz.results36,go_sem]) rfl ?_;refine⟨rfl,?_,λown=>SFr.set w 4 _⟩;rw[decide_eq_true he];exact heap_set o.out _
end Go.Proofs.YtjldahcckmmenaaGreatDoor
