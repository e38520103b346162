/-
  The law's entries, walked. A law's store, in calm weather: what stands between its calls. Changes as the document has them: the law's ref, the document's Check, walked. The document's changes: less, Change, Changes, walked. The document's Changes; a Write that is refused, walked. StoreRefuses, walked.
-/
import Derived.Test.YtjldahcckmmenaaGreatDoorZd19
import Derived.Test.YtjldahcckmmenaaGreatDoorZd14
open Array renaming getInternal_eq_getElem → QD
open Go.Lib renaming hid → QA
open List renaming setIfInBounds_toArray → QC, set_cons_succ → QG, set_cons_zero → QH, getElem_cons_zero → QI, getElem_cons_succ → QJ, getElem_toArray → QK, length_cons → QO, length_append → QS, length_map → QV, mem_of_getElem? → QZ, getElem?_map → ZF, getElem?_eq_getElem → ZG, length_take → ZH, map_cons → ZP, eq_nil_of_length_eq_zero → ZW
open Nat renaming le_refl → QM, zero_le → ZS
namespace Go.Proofs.YtjldahcckmmenaaGreatDoor
set_option maxRecDepth 100000
set_option maxHeartbeats 4000000
set_option linter.unusedSimpArgs false
set_option linter.unusedVariables false
open Go Go.RowKit
open Go.Maps Go.WideMaps
theorem Dx (b off j:Nat):(⟨b,off,none⟩:Addr).add j=⟨b,off+j,none⟩:=by
 unfold Addr.add;by_cases h:j=0
 ·rw[h];rfl
 ·simp[h]
theorem Kh:(Tryz.prog.info? 82).map (λi=>(i.zero,i.size,i.bytes))=some (some (.agg (Array.replicate 32 (.int .u8 0)++#[.int .i64 0,.string ⟨#[]⟩])),34,56):=by kernel_rfl
theorem Kt (w:World):(zeroValue 82).run Tryz.prog w=.ok (.agg (Array.replicate 32 (.int .u8 0)++#[.int .i64 0,.string ⟨#[]⟩])) w:=by kernel_rfl
theorem Fi (w:World) (o:Sto.Op) (hk:o.1.length=32):(Instr.build 82 #[(0,Ah o.1),(1,.int .i64 o.2.1),(2,txt o.2.2)]).run Tryz.prog w=.ok (.agg (AR o).toArray) w:=by
 have A:=AP o.1;unfold Instr.build;simp only[Sem.run_bind,Kt,Result.andThen_ok,run_underlying Tryz.underlying82];simp;rw[DY hk (by simp[Value.cells]) (.int .i64 0) (.string ⟨#[]⟩) (by simp[Value.cells]) (by simp[Value.cells]) _ rfl,Cx (off:=32) rfl (by simp;omega) _ rfl,I5 hk,Cx (off:=33) rfl (by simp;omega) _ rfl,JF hk];rfl
theorem GJ {o:Sto.Op}:∀u∈AR o,u.oneCell'=true:=BQ (KE _)
section
variable {ops : Array Oper} {rest : List Oper} {op : Oper} {a : Act} {w : World} {Q : Exit → Act → World → Prop}
theorem JB (hw:Region.wanted op (yielded ops a.tmps)=true) (x y z:Operand) (ho:op.op=.build 82 #[(0,x),(1,y),(2,z)]) (o:Sto.Op) (hk:o.1.length=32)
  (hx:a.eval x=Ah o.1) (hy:a.eval y=.int .i64 o.2.1) (hz:a.eval z=txt o.2.2) (h:wpList Tryz.prog ops Q rest (a.put op.dst (.agg (AR o).toArray)) w):wpList Tryz.prog ops Q (op::rest) a w :=
 BK hw λ_ hK=>by
  unfold Oper.wp execOp;simp only[ho,List.map_toArray,ZP,List.map_nil,hx,hy,hz,Sem.run_bind,Fi w o hk,Result.andThen_ok];exact hK _ _ h
theorem Hx (hw:Region.wanted op (yielded ops a.tmps)=true) (x:Operand) (ho:op.op=.buildSlice 33 1 #[(0,x)]) (o:Sto.Op) (hk:o.1.length=32) (hx:a.eval x=.agg (AR o).toArray)
  (h:wpList Tryz.prog ops Q rest (a.put op.dst (.slice (some ⟨w.heap.size,0,none⟩) 1 1)) (w.alloc (.cells (AR o).toArray 82))):wpList Tryz.prog ops Q (op::rest) a w:=by
 obtain⟨F,E,C,B,D⟩:=info_parts Kh;refine BK hw λ_ hK=>?_
 have A:=B0 w 33 82 (AR o) F _ Tryz.underlying33 E C (by rw[B,A6 hk]) (by rw[A6 hk];omega) (by rw[A6 hk];omega);unfold Oper.wp execOp;simp only[ho,Sem.run_bind,List.map_toArray,ZP,List.map_nil,hx,A,Result.andThen_ok];exact hK _ _ h
theorem B2 (hgd:op.guard=none) (s x:Operand) (ho:op.op=.call { callee:=.builtin .append,args:=#[s,x],argTypes:=#[33,33] })
  (base:Nat) (v:Value) (E:Sto.Ents) (hs:a.eval s=v) (hown:CP w base v E) (o:Sto.Op) (hok:ROk o) (b off n c:Nat) (hx:a.eval x=.slice (some ⟨b,off,none⟩) n c) (hn:n=1) (hr:w.rangeAt b off (AR o)) (h63:E.length≤1000000000) (hbase:base≤w.heap.size)
  (h:∀v' w',CP w' base v' (E++[o])→w.grownBy w' v.ownBlock→(v'.ownBlock=v.ownBlock∨v'.ownBlock=some w.heap.size)→wpList Tryz.prog ops Q rest (a.put op.dst v') w') :
  wpList Tryz.prog ops Q (op::rest) a w:=by
 obtain⟨F,D,C,B,A⟩:=info_parts Kh;refine wpList_append_own_at w hgd s x _ ho base 82 F (.agg (Array.replicate 32 (.int .u8 0)++#[.int .i64 0,.string ⟨#[]⟩])) 34 56 Tryz.underlying33 D C B A rfl (by decide) v E.length (BR E) hs hown.row ⟨b,off,none⟩ n c (AR o) hx (by rw[A6 hok.key,hn]) ?_ GJ (by unfold maxLen;omega) (by omega) hbase ?_
 ·intro j u hj;rw[Dx];exact hr j u hj
 ·intro v' w' g1 g2 _ g4;refine h v' w' ⟨?_,λp hp=>?_⟩ g2 g4
  ·rw[QS,FN,FX,List.length_singleton];rw[hn]at g1;exact g1
  ·rcases List.mem_append.1 hp with hp|hp
   ·exact hown.ok p hp
   ·rw[List.mem_singleton.1 hp];exact hok
theorem DT (hg:op.guard=none) (x y:Operand) (ho:op.op=.store 40 x y) (c:Array Value) (hc:c.size=32) (k:List UInt8) (hk:k.length=32)
  (hx:a.eval x=.pointer (some ⟨w.heap.size,0,none⟩)) (hy:a.eval y=Ah k) (h:wpList Tryz.prog ops Q rest (a.put op.dst undef) (w.alloc (.cells (AH k).toArray 40))) :
  wpList Tryz.prog ops Q (op::rest) a (w.alloc (.cells c 40)) :=
 wpList_plain hg λ_ hK=>by
  have o:a.eval y=.agg (AH k).toArray:=hy;unfold Oper.wp execOp;simp only[ho,hx,o,Instr.storeAt,Instr.sureAddr,Sem.run_bind,Sem.run_pure,Result.andThen_ok,run_storeVar_new (P:=Tryz.prog) w 40 c (AH k).toArray (by rw[List.size_toArray,AP,hk];kernel_rfl) (by rw[hc,List.size_toArray,AP,hk]) (all_oneCell_toArray (CW k))];exact hK _ _ h
end
theorem KZ {l:Sto.ME} (hs:Sto.Srt (l.map (·.1))) {j:Nat} {p:Sto.Op×Value} (h:l[j]?=some p):Sto.getE (l.map (·.1)) p.1.1=(p.1.2.1,p.1.2.2,true):=by
 have A:(l.map λp=>p.1.1).Pairwise λ(x y:List UInt8)=>x≠y:=by
  unfold Sto.Srt at hs;rw[List.pairwise_map]at hs ⊢;exact hs.imp λ{a b} (h:a.1.1<b.1.1) e=>by rw[e]at h;exact List.lt_irrefl _ h
 have o:=QZ h;refine Sto.getE_some (p:=p) ?_;clear h hs
 induction l with
 | nil=>cases o
 | cons q r ih =>
  rw[ZP,List.pairwise_cons]at A;rcases List.mem_cons.1 o with rfl|hm
  ·rw[List.find?_cons_of_pos (by simp)]
  ·rw[List.find?_cons_of_neg (by
    have:=A.1 p.1.1 (List.mem_map.2 ⟨p,hm,rfl⟩)
    simpa using this)]
   exact ih A.2 hm
def KY (E:Sto.Ents):Prop:=E.length≤1000000∧∀o∈E,ROk o
theorem CF (r B mb:Nat) (ver:Int) (sv:Value) (dead:Bool) (l:Sto.ME) (w:World) (G:Nat→Prop) (hroot:w.heap[r]?=some (.cells (AF ver sv mb B dead) 51 (0,0)))
  (hm:A1 w G mb l) (hs:Sto.Srt (l.map (·.1))) (hf:KY (l.map (·.1))) :
  Calls Tryz.prog 16 #[.pointer (some ⟨r,0,none⟩)] w λe w'=>∃v,e=.returned v∧CP w' w.heap.size v (l.map (·.1))∧Below w.heap.size w w':=by
 have af:l.length≤1000000:=by have:=hf.1;rwa [QV]at this
 have HM:=QA hm;have HS:=QA hs;have HF:=QA hf;have HR:=QA hroot;have y0:=rc0 hroot;have y1:=rc1 hroot;have y2:=rc2 hroot;have y3:=rc3 hroot;have y4:=rc4 hroot;clear hm hs hf hroot;go_enter Tryz.func16,Tryz.ntmps16;go_wp2_with fail;refine (E6 mb l w G HM.out HS.out af).mono ?_;rintro e w1 ⟨kv,ks,rfl,hok,hks,hb1⟩;obtain⟨ka,kc,rfl⟩:=BC hok;have X:ks.length=l.length:=by have:=congrArg List.length hks;rwa [QV,QV]at this
 rw[X];have ai:=QA hok;have aI:=QA hks;have J:=QA hb1;have al:=QA X;clear hok hks hb1 X y0 y1 y2 y3 y4;go_wp2_with fail
 go_loopg [3,15] l.length (λk s3 s15 wr=>∃j:Nat,j≤l.length∧k=l.length-j∧s15=.int .i64 (j:Nat)∧CP wr w1.heap.size s3 ((l.map (·.1)).take j)∧Below w1.heap.size w1 wr)
 case atStart=>exact⟨0,ZS _,rfl,rfl,CP.nil _ _,Below.refl _ _⟩
 case round =>
  obtain⟨j,hj,hk,rfl,N,hB⟩:=hrel;obtain⟨oa,oc,rfl⟩:=N.form;have HK:=QA hk;have HB:=QA hB;have U:((l.map (·.1)).take j).length=j:=by rw[ZH,QV];omega
  rw[U]at N ⊢;have Z:=QA N;have ac:=QA U;clear hk hB N U;have aW:(0:Int)≤(j:Int):=Int.natCast_nonneg _;by_cases hjn:j<l.length
  ·have am:(j:Int)<(l.length:Int):=by omega
   obtain⟨⟨o,pv⟩,hp⟩:∃p,l[j]?=some p:=⟨_,ZG hjn⟩
   obtain⟨kk,R⟩:∃k,ks[j]?=some k:=⟨_,ZG (by have:=al.out;omega)⟩
   have W:kk.1=o.1:=by
    have H:(ks.map (·.1))[j]?=some kk.1:=by rw[ZF,R];rfl
    rw[aI.out,ZF,hp]at H;exact (Option.some.inj H).symm
   obtain⟨kg,a1,ah⟩:=Bj ai.out (by have:=al.out;omega);simp only[Value.slice.injEq]at ah;obtain⟨rfl,-,rfl⟩:=ah;have O:o.1.length=32:=W▸kk.2;have ao:wr.rangeAt kg (j*32) (AH o.1):=by
    have H:=ai.out;have:=Hl H R;rw[W]at this;exact AW this (HB.out.block _ (H.lt kg rfl).2)
   have an:=KZ HS.out hp;have aj:Hid (ROk o):=QA (HF.out.2 o (List.mem_map.2 ⟨_,QZ hp,rfl⟩));have az:=QA ao;have ab:=QA an;have aH:Hid ((l.map (·.1)).take (j+1)=(l.map (·.1)).take j++[o]):=QA (by rw[List.take_add_one,ZF,hp];rfl);have A:=QA O;clear hp R W ao an O;go_wp2_with (first|(guard_target=wpList _ _ _ ({ dst:=_,op:=.load 40 _,type:=_,pos:=_,after:=_,guard:=none }::_) _ _;refine Ab rfl _ rfl kg (j*32) o.1 A.out rfl az.out ?_)|(guard_target=wpList _ _ _ ({ dst:=_,op:=.store 40 _ _,type:=_,pos:=_,after:=_,guard:=none }::_) _ _;refine DT rfl _ _ rfl _ rfl o.1 A.out rfl rfl ?_)|fail);have V:=AK wr (.cells (AH o.1).toArray 40);have F:Below wr.heap.size wr (wr.alloc (.cells (AH o.1).toArray 40)):=(Below.refl _ _).alloc (QM _) _;have C:=J.out.trans (HB.out.mono J.out.size);have S:(wr.alloc (.cells (AH o.1).toArray 40)).heap[r]?=some (.cells (AF ver sv mb B dead) 51 (0,0)):=(F.block _ (by have:=AC HR.out;have:=C.size;omega)).trans ((C.block _ (AC HR.out)).trans HR.out);have T:=HM.out.below (C.trans (F.mono C.size));have P:=Z.out.keep F;obtain⟨L,Y⟩:∃x,wr.alloc (.cells (AH o.1).toArray 40)=x:=⟨_,rfl⟩
   have ag:L.heap.size=wr.heap.size+1:=by rw[← Y];simp
   rw[Y]at V F S T P ⊢;have aA:=QA V;have ak:=QA (HB.out.trans (F.mono HB.out.size));have Q:=QA S;have aE:=QA T;have aD:=QA P;have aG:=QA ag;clear V F C S T P ag Y;refine AM (λw'=>w'.heap[r]?=some (.cells (AF ver sv mb B dead) 51 (0,0))∧w'.rangeAt wr.heap.size 0 (AH o.1)) 13 (by kernel_rfl) ?_;have K:L.rangeAt wr.heap.size 0 (AH o.1):=λi u hi=>by rw[Nat.zero_add];exact AA aA.out i u (by simpa using hi)
   have E:L.drew.heap[r]?=some (.cells (AF ver sv mb B dead) 51 (0,0))∧L.drew.rangeAt wr.heap.size 0 (AH o.1):=⟨Q.out,(World.rangeAt_drew _ _ _ _).2 K⟩
   change Af _ _ _ _ _ _ _ _ _ L.drew;refine TK (i:=0) (v:=.pointer (some ⟨r,0,none⟩)) rfl (Or.inl ⟨by rfl,λw hSw=>by go_simp⟩) E ?_;simp only[Act.put,QD,QK,QI,QJ,QC,QH,QG];refine TK (i:=1) (v:=.pointer (some ⟨r,0,none⟩)) rfl (Or.inl ⟨by rfl,λw hSw=>by go_simp⟩) E ?_;simp only[Act.put,QD,QK,QI,QJ,QC,QH,QG];refine TK (i:=2) (v:=.pointer (some ⟨r,2,none⟩)) rfl (Or.inl ⟨by rfl,λw hSw=>by go_simp⟩) E ?_;simp only[Act.put,QD,QK,QI,QJ,QC,QH,QG];refine TK (i:=3) (v:=.map (some mb)) rfl (Or.inl ⟨by rfl,λw hSw=>by have a2:=rc2 hSw.1;go_simp⟩) E ?_;simp only[Act.put,QD,QK,QI,QJ,QC,QH,QG];refine TK (i:=4) (v:=Ah o.1) rfl (Aw rfl _ rfl wr.heap.size 0 rfl o.1 A.out (λw hSw=>hSw.2)) E ?_;simp only[Act.put,QD,QK,QI,QJ,QC,QH,QG];refine TO (i:=5) ?_;refine AD (by decide) (λK5 HK5=>?_);simp only[List.drop_succ_cons,List.drop_zero,List.take_succ_cons,List.take_zero];go_wp2_with fail;refine (C4 mb l o.1 L.drew _ (aE.out.below (Below.drew (Below.refl _ _))) A.out (by rw[ab.out];exact aj.out.val)).mono ?_;rw[ab.out];rintro e w7 ⟨gv,rfl,hgv,hb7⟩;obtain⟨ga,gc,ad⟩:=hgv.slice;subst ad;have D:Below L.heap.size L w7:=(Below.drew (Below.refl _ L)).trans hb7;have aw:Hid (AZ w7 (.slice ga o.2.2.length gc) o.2.2):=QA hgv.byts;have I:=AW K (D.block _ (by have:=aG.out;omega));have ap:=QA I;have M:Hid (Below w1.heap.size w1 w7):=QA (ak.out.trans (D.mono ak.out.size));have aa:=QA (aD.out.keep D);have E:w7.heap[r]?=some (.cells (AF ver sv mb B dead) 51 (0,0))∧w7.rangeAt wr.heap.size 0 (AH o.1):=⟨(D.block _ (AC Q.out)).trans Q.out,I⟩
   clear hgv hb7 D I K;go_wp2;refine HK5.out _ _ ⟨λ_=>E,?_⟩;clear HK5;refine TK (i:=6) (v:=.tuple #[.int .i64 o.2.1,.slice ga o.2.2.length gc,.bool true]) rfl (Or.inl ⟨by rfl,λw hSw=>by go_simp⟩) E ?_;simp only[Act.put,QD,QK,QI,QJ,QC,QH,QG];refine TK (i:=7) (v:=.int .i64 o.2.1) rfl (Or.inl ⟨by rfl,λw hSw=>by go_simp⟩) E ?_;simp only[Act.put,QD,QK,QI,QJ,QC,QH,QG];refine TK (i:=8) (v:=.slice ga o.2.2.length gc) rfl (Or.inl ⟨by rfl,λw hSw=>by go_simp⟩) E ?_;simp only[Act.put,QD,QK,QI,QJ,QC,QH,QG];refine TK (i:=9) (v:=.bool true) rfl (Or.inl ⟨by rfl,λw hSw=>by go_simp⟩) E ?_;simp only[Act.put,QD,QK,QI,QJ,QC,QH,QG];refine TK (i:=10) (v:=.int .i64 o.2.1) rfl (Or.inl ⟨by rfl,λw hSw=>by go_simp⟩) E ?_;simp only[Act.put,QD,QK,QI,QJ,QC,QH,QG];refine TK (i:=11) (v:=.slice ga o.2.2.length gc) rfl (Or.inl ⟨by rfl,λw hSw=>by go_simp⟩) E ?_;simp only[Act.put,QD,QK,QI,QJ,QC,QH,QG];refine TK (i:=12) (v:=.bool true) rfl (Or.inl ⟨by rfl,λw hSw=>by go_simp⟩) E ?_;simp only[Act.put,QD,QK,QI,QJ,QC,QH,QG];refine AO (by kernel_rfl) ?_ _;have aU:=Cl aw.out;have aS:(j:Int)+1≤1000001:=by omega
   go_wp2_with (first|(guard_target=wpList _ _ _ ({ dst:=_,op:=.load 40 _,type:=_,pos:=_,after:=_,guard:=none }::_) _ _;refine Ab rfl _ rfl wr.heap.size 0 o.1 A.out rfl ap.out ?_)|(guard_target=wpList _ _ _ ({ dst:=_,op:=.build 82 _,type:=_,pos:=_,after:=_,guard:=_ }::_) _ _;refine JB rfl _ _ _ rfl o A.out rfl rfl rfl ?_)|(guard_target=wpList _ _ _ ({ dst:=_,op:=.buildSlice 33 _ _,type:=_,pos:=_,after:=_,guard:=_ }::_) _ _;refine Hx rfl _ rfl o A.out rfl ?_)|(at_builtin;refine B2 rfl _ _ rfl w1.heap.size (.slice oa j oc) ((l.map (·.1)).take j) rfl (aa.out.keep ((Below.refl _ _).alloc (QM _) _)) o aj.out w7.heap.size 0 1 1 rfl rfl (λi u hi=>by rw[Nat.zero_add];exact AA (AK w7 _) i u (by simpa using hi)) (by rw[ac.out];omega) (by have:=M.out.size;simp;omega) ?_;intro v8 w8 ho8 hg8 hl8;obtain⟨a8,c8,av⟩:=ho8.form;subst av;have aB:=QA ho8;have ax:=QA hg8;clear ho8 hg8 hl8)|fail);go_roundg (l.length-(j+1))
   case measure=>rw[HK.out];omega
   case rel =>
    refine⟨j+1,by omega,rfl,by simp,by rw[aH.out];have h8:=aB.out;rw[QS,ac.out]at h8;exact h8,?_⟩;have H:Below w1.heap.size w1 (w7.alloc (.cells (AR o).toArray 82)):=M.out.alloc M.out.size _;exact H.grown ax.out (by have:=M.out.size;simp;omega) (λg hg=>(aa.out.row.lt g hg).1)
  ·have am:(l.length:Int)≤(j:Int):=by omega
   have HT:Hid ((l.map (·.1)).take j=l.map (·.1)):=QA (List.take_of_length_le (by rw[QV];omega));go_wp2_with fail;refine bodyPost_ret (v:=.slice oa j oc) (by simp[results,Tryz.results16,go_sem]) rfl ?_;refine⟨_,rfl,?_,J.out.trans (HB.out.mono J.out.size)⟩;have H:=Z.out;rw[HT.out]at H;have:=J.out.size;exact⟨ownsRow_base_a (by have:=H.row;exact this) this,H.ok⟩
open Go.Maps Go.WideMaps
namespace Sto
theorem GQ:∀(ops:List Op) {E:Ents} {e:Op},e∈chgs E ops→e∈E∨e∈ops
 | [],E,e,h=>.inl h
 | o::r,E,e,h=>by
  have A:e∈chgs (chg E o) r:=h;rcases GQ r A with h2|h2
  ·unfold chg at h2;split at h2
   ·exact .inl (Dr.1 h2).1
   ·rcases Fo.1 h2 with rfl|h2
    ·exact .inr List.mem_cons_self
    ·exact .inl (Dr.1 h2).1
  ·exact .inr (List.mem_cons_of_mem _ h2)
theorem Ka {ops:List Op} (h:chk ops=0) {o:Op} (ho:o∈ops):0≤o.2.1∧o.2.1≤9∧o.2.2.length≤8192:=by
 obtain⟨B,D⟩:=chk_len h;have C:35+o.2.2.length≤mass ops:=by
  unfold mass;exact le_sum (List.mem_map.2 ⟨o,ho,rfl⟩)
 unfold chk at h;split at h
 ·cases h
 split at h
 ·cases h
 rename_i hb;have A:badK o=false:=by
  cases h2:badK o
  ·rfl
  ·exact absurd (List.any_eq_true.2 ⟨o,ho,h2⟩) hb
 unfold badK at A;simp only[Bool.or_eq_false_iff,decide_eq_false_iff_not]at A;omega
theorem DiskX.entOk {f:Fs.St} {k:Nat} {ver:Int} {S:List Seg} {M:Nat} (h:DiskX f k ver S M) {e:Op} (he:e∈ents S):e.1.length=32∧(0≤e.2.1∧e.2.1≤9)∧e.2.2.length≤8192:=by
 rcases GQ _ he with h1|h1
 ·cases h1
 ·obtain⟨b,E,o⟩:=List.mem_flatten.1 h1;have A:=h.bat b E;obtain⟨C,D,B⟩:=Ka A.chk o;exact⟨A.key e o,⟨C,D⟩,B⟩
theorem wrote_len {S:List Seg} (h:S≠[]) (ops:List Op):(wrote S ops).length≤S.length+1:=by
 unfold wrote;split
 ·exact (Hw h ops).2
 ·omega
theorem EB {S:List Seg} (h:S≠[]) (ops:List Op):ents (wrote S ops)=if Goes S ops then chgs (ents S) ops else ents S:=by
 unfold wrote;split
 ·exact ents_put h ops
 ·rfl
end Sto
theorem Hf {f:Fs.St} {k:Nat} {ver:Int} {S:List Sto.Seg} {M:Nat} (h:Sto.DiskX f k ver S M):KY (Sto.ents S):=by
 have C:=h.live;have E:=Sto.live_len (Sto.ents S);refine⟨by omega,λo ho=>?_⟩;obtain⟨A,D,B⟩:=h.entOk ho;exact⟨A,by omega,by omega⟩
structure Fsn (base r:Nat) (x:World) (f:Fs.St) (V:FsV) (own:Nat→Tag) (ver:Int) (sv:Value) (mb:Nat) (l:Sto.ME) (S:List Sto.Seg) (R:Int) (n:Nat):Prop where
 fs:Aa base (base+2) f V own x
 at_:An x own (base+2) r ⟨ver,Sto.ids S,Sto.ents S,false⟩ mb sv l
 disk:Sto.Disk f (15+14*n) ver S 12297
 room:f.room=R
 len:S.length≤n+1
 le:base≤x.heap.size
section
variable {base r : Nat} {x : World} {f : Fs.St} {V : FsV} {own : Nat → Tag} {ver : Int} {sv : Value} {mb : Nat} {l : Sto.ME} {S : List Sto.Seg} {R : Int} {n : Nat}
theorem Fsn.below {y:World} (h:Fsn base r x f V own ver sv mb l S R n) (hb:Below x.heap.size x y):Fsn base r y f V own ver sv mb l S R n :=
 ⟨h.fs.kept (AB hb),h.at_.below hb,h.disk,h.room,h.len,Nat.le_trans h.le hb.size⟩
theorem Fsn.more {m:Nat} (h:Fsn base r x f V own ver sv mb l S R n) (hm:n≤m):Fsn base r x f V own ver sv mb l S R m :=
 ⟨h.fs,h.at_,h.disk.mono (by omega) (QM _),h.room,by have:=h.len;omega,h.le⟩
theorem Fsn.low {m:Nat} (h:Fsn base r x f V own ver sv mb l S R n) (hr:base≤r) (hm:m≤base):∀b,b<m→SF r own b:=λb hb=>⟨h.fs.old b (by omega),by omega⟩
theorem Fsn.fresh (h:Fsn base r x f V own ver sv mb l S R n):∀b,x.heap.size≤b→SF r own b:=λb hb=>⟨h.fs.fresh b hb,by have:=AC h.at_.root;omega⟩
theorem Fsn.entsM (h:Fsn base r x f V own ver sv mb l S R n):A1 x (SF r own) mb l:=⟨h.at_.ents.map,h.at_.ents.key,h.at_.ents.val⟩
theorem Fsn.efit (h:Fsn base r x f V own ver sv mb l S R n):KY (l.map (·.1)):=by rw[h.at_.is];exact Hf h.disk.x
theorem Fsn.srt (h:Fsn base r x f V own ver sv mb l S R n):Sto.Srt (l.map (·.1)):=by rw[h.at_.is];exact h.at_.srt
theorem Fsn.entries (h:Fsn base r x f V own ver sv mb l S R n):Calls Tryz.prog 16 #[.pointer (some ⟨r,0,none⟩)] x λe w'=>∃v,e=.returned v∧CP w' x.heap.size v (Sto.ents S)∧Below x.heap.size x w':=by
 have:=CF r (base+2) mb ver sv false l x (SF r own) h.at_.root h.entsM h.srt h.efit
 rwa [h.at_.is]at this
theorem Fsn.live (h:Fsn base r x f V own ver sv mb l S R n):Calls Tryz.prog 17 #[.map (some mb)] x λe w'=>e=.returned (.int .i64 (Sto.live (Sto.ents S):Nat))∧Below x.heap.size x w':=by
 have o:l.map (·.1)=Sto.ents S:=h.at_.is;have C:Sto.Srt (Sto.ents S):=h.at_.srt;have D:=Sto.DiskX.live h.disk.x;have A:(l.map λp=>p.1.1).Nodup:=by
  have B:((Sto.ents S).map (·.1)).Nodup:=by
   rw[List.Nodup,List.pairwise_map];exact List.Pairwise.imp (R:=λa b:Sto.Op=>a.1<b.1) (λ{a b} h e=>by rw[e]at h;exact List.lt_irrefl _ h) C
  rw[← o,List.map_map]at B;exact B
 have:=Cf mb l x (SF r own) h.entsM A (by rw[o];omega)
 rwa [o]at this
theorem room_le {s m:Nat} {R:Int} (h:s≤m) (hR:(((m+3)*12297+800:Nat):Int)≤R):(((s+3)*12297+800:Nat):Int)≤R :=
 Int.le_trans (Int.ofNat_le.2 (Nat.add_le_add_right (Nat.mul_le_mul_right 12297 (by omega)) 800)) hR
def LU (base r:Nat) (x:World) (S:List Sto.Seg) (R:Int) (n:Nat) (own:Nat→Tag) (e:Ending) (w':World):Prop :=
 ∃f' V' own' ver' mb' sv' l',Fsn base r w' f' V' own' ver' sv' mb' l' S R n∧SFr r own own' x w'∧Below base x w'
theorem Fsn.write (h:Fsn base r x f V own ver sv mb l S R n) (hr:base≤r) (hE:Aq base x) (v:Value) (ops:Sto.ME) {F:Nat→Prop} (ho:Al x F v ops) (hF:∀b,b<x.heap.size→F b→SF r own b)
  (hol:ops.length≤1000000000) (hbl:∀p∈ops,p.1.2.2.length≤1000000000) (hn:n≤1000) (h31:S.length≤31) (hR:(((S.length+3)*12297+800:Nat):Int)≤R) :
  Calls Tryz.prog 13 #[.pointer (some ⟨r,0,none⟩),v] x λe w'=>e=.returned (.int .i64 (Sto.wcode S (Sto.opsOf ops)))∧LU base r x (Sto.wrote S (Sto.opsOf ops)) R (n+1) own e w':=by
 have C:∀p∈ops,p.1.1.length=32:=λp A=>by
  obtain⟨i,E⟩:=List.getElem?_of_mem A;obtain⟨a,cap,H,_,D⟩:=ho;exact (D i p E).1
 have B:=h.len;refine (EF base (base+2) r mb f V own ver sv S 12297 (15+14*n) l v ops x h.fs hE h.le hr h.at_ h.disk (ho.mv ⟨QM _,λb hb hf=>⟨hF b hb hf,rfl⟩⟩) hol hbl C (λhg=>?_)).mono ?_
 ·have G:Sto.GoodB (Sto.opsOf ops):=⟨hg.1,hg.2.2,λo ho=>by
   obtain⟨p,A,rfl⟩:=List.mem_map.1 ho;exact C p A⟩
  exact Sto.Can.of h.disk G h31 (by rw[h.room];exact hR) (by omega)
 ·rintro e w' ⟨rfl,f',V',own',ver',mb',sv',l',k1,k2,k3,k4,k5,k6⟩;refine⟨rfl,f',V',own',ver',mb',sv',l',⟨k1,k4,k5.mono (by omega) (QM _),k6.trans h.room,?_,Nat.le_trans h.le k3.size⟩,k2,k3⟩;have:=Sto.wrote_len h.disk.x.ne (Sto.opsOf ops);omega
end
theorem An.past {w w':World} {own own':Nat→Tag} {B r q:Nat} {s:Sto.St} {mb:Nat} {sv:Value} {l:Sto.ME} (h:An w own B r s mb sv l) (hf:SFr q own own' w w') (hq:w.heap.size≤q):An w' own' B r s mb sv l:=by
 have o:=AC h.root;have m:MV (SF r own) (SF r own') w w':=⟨hf.size,λb hb hf2=>⟨⟨(hf.tags b hb).trans hf2.1,hf2.2⟩,hf.block b hb hf2.1 (by omega)⟩⟩
 exact⟨(hf.block r o h.mine (by omega)).trans h.root,(hf.tags r o).trans h.mine,h.segs.mv m,h.ents.mv m,h.is,h.srt⟩
def LQ (R:Int) (w:World) (e:Ending) (w':World):Prop :=
 ∃r f V own sv mb,e=.returned (.tuple #[.pointer (some ⟨w.heap.size+2,0,none⟩),.pointer (some ⟨r,0,none⟩)])∧w.heap.size≤r∧Fsn w.heap.size r w' f V own 1 sv mb [] [(1,[])] R 0∧Below w.heap.size w w'
theorem I0 (base:Nat) (R:Int) (w:World) (hE:Aq base w) (hbase:base≤w.heap.size) (h1:3200≤R) (h2:R≤1048576):Calls Tryz.prog 10 #[.int .i64 R] w (LQ R w):=by
 refine (Dv base R w hE hbase h1 h2).mono ?_;rintro e w' ⟨r,V,own,sv,mb,rfl,k1,k2,k3,k4⟩;obtain⟨D,B,E,C,o,A⟩:=Sto.Disk.begin h1 h2;exact⟨r,_,V,own,sv,mb,rfl,k1,⟨k2,k4,A.mono (QM _) (by omega),o,QM _,k3.size⟩,k3⟩
open Go.Maps Go.WideMaps
theorem JD (v:Value) (l:Sto.ME) (w:World) (F:Nat→Prop) (h:Al w F v l) (hl:l.length≤1000000) (hok:∀o∈Sto.opsOf l,ROk o) :
  Calls Tryz.prog 12 #[v] w λe w'=>∃v',e=.returned v'∧CP w' w.heap.size v' (Sto.opsOf l)∧Below w.heap.size w w':=by
 obtain⟨va,vc,rfl⟩:=h.form;have H:=QA h;have ag:=QA hok;clear h hok;go_enter Tryz.func12,Tryz.ntmps12;go_wp2_with fail
 go_loopg [3,8] l.length (λk s3 s8 wr=>∃j:Nat,j≤l.length∧k=l.length-j∧s8=.int .i64 (j:Nat)∧CP wr w.heap.size s3 ((Sto.opsOf l).take j)∧Below w.heap.size w wr)
 case atStart=>exact⟨0,ZS _,rfl,rfl,CP.nil _ _,Below.refl _ _⟩
 case round =>
  obtain⟨j,hj,hk,rfl,J,hB⟩:=hrel;obtain⟨oa,oc,rfl⟩:=J.form;have HK:=QA hk;have Y:=QA hB;have N:((Sto.opsOf l).take j).length=j:=by rw[ZH,Sto.opsOf_len];omega
  rw[N]at J ⊢;have O:=QA J;have ai:=QA N;clear hk hB J N;have aC:(0:Int)≤(j:Int):=Int.natCast_nonneg _;by_cases hjn:j<l.length
  ·have T:(j:Int)<(l.length:Int):=by omega
   obtain⟨⟨o,pv⟩,hp⟩:∃p,l[j]?=some p:=⟨_,ZG hjn⟩
   obtain⟨B,R,g,ae,rfl,hg,L⟩:=(H.out.mv (MV.below Y.out)).at hp;have G:=R.1;have ah:Hid ((Sto.opsOf l).take (j+1)=(Sto.opsOf l).take j++[o]):=QA (by rw[List.take_add_one,Sto.opsOf_get hp];rfl);have ak:Hid (ROk o):=QA (ag.out o (QZ (Sto.opsOf_get hp)));obtain⟨P,V,W,ay⟩:=G.form;simp only at W B G L;subst W;have C:Below wr.heap.size wr (wr.alloc (.cells (AG o (.slice P o.2.2.length V)).toArray 43)):=(Below.refl _ _).alloc (QM _) _;have D:=Ad.new wr o (.slice P o.2.2.length V);have M:=O.out.keep C;have E:=G.below C;have X:=QA G;have Q:=QA L;have A:=QA B;clear B hp R G L;obtain⟨Z,I⟩:∃x,wr.alloc (.cells (AG o (.slice P o.2.2.length V)).toArray 43)=x:=⟨_,rfl⟩
   have S:Z.heap.size=wr.heap.size+1:=by rw[← I];simp
   rw[I]at C D M E;have ax:=D.cell (Au A.out _);have av:=D.cell (Ae A.out _);have aj:=QA D.key;have K:=QA (Y.out.trans (C.mono Y.out.size));have U:=QA M;have aB:=Cl E;have ac:=QA I;have az:(j:Int)+1≤1000001:=by omega
   have aw:=QA S;clear C D M E I S;go_wp2_with (first|(guard_target=wpList _ _ _ ({ dst:=_,op:=.load 43 _,type:=_,pos:=_,after:=_,guard:=none }::_) _ _;refine AJ rfl _ rfl g (ae+j*34) o (.slice P o.2.2.length V) A.out rfl Q.out ?_)|(guard_target=wpList _ _ _ ({ dst:=_,op:=.store 43 _ _,type:=_,pos:=_,after:=_,guard:=none }::_) _ _;refine AL rfl _ _ rfl _ rfl o (.slice P o.2.2.length V) A.out X.out.one rfl rfl ?_;rw[ac.out])|(guard_target=wpList _ _ _ ({ dst:=_,op:=.load 40 _,type:=_,pos:=_,after:=_,guard:=none }::_) _ _;refine Ab rfl _ rfl wr.heap.size 0 o.1 A.out rfl aj.out ?_)|(guard_target=wpList _ _ _ ({ dst:=_,op:=.build 82 _,type:=_,pos:=_,after:=_,guard:=_ }::_) _ _;refine JB rfl _ _ _ rfl o A.out rfl rfl rfl ?_)|(guard_target=wpList _ _ _ ({ dst:=_,op:=.buildSlice 33 _ _,type:=_,pos:=_,after:=_,guard:=_ }::_) _ _;refine Hx rfl _ rfl o A.out rfl ?_)|(at_builtin;refine B2 rfl _ _ rfl w.heap.size (.slice oa j oc) ((Sto.opsOf l).take j) rfl (U.out.keep ((Below.refl _ _).alloc (QM _) _)) o ak.out Z.heap.size 0 1 1 rfl rfl (λi u hi=>by rw[Nat.zero_add];exact AA (AK Z _) i u (by simpa using hi)) (by rw[ai.out];omega) (by have:=K.out.size;simp;omega) ?_;intro v8 w8 ho8 hg8 hl8;obtain⟨a8,c8,af⟩:=ho8.form;subst af;have ad:=QA ho8;have al:=QA hg8;clear ho8 hg8 hl8)|fail);go_roundg (l.length-(j+1))
   case measure=>rw[HK.out];omega
   case rel =>
    refine⟨j+1,by omega,rfl,by simp,by rw[ah.out];have h8:=ad.out;simp only[QS,ZH,List.length_singleton]at h8;exact h8,?_⟩;have h1:Below w.heap.size w (Z.alloc (.cells (AR o).toArray 82)):=K.out.alloc K.out.size _;exact h1.grown al.out (by have:=K.out.size;simp;omega) (λg hg=>(U.out.row.lt g hg).1)
  ·have T:(l.length:Int)≤(j:Int):=by omega
   have HT:Hid ((Sto.opsOf l).take j=Sto.opsOf l):=QA (List.take_of_length_le (by rw[Sto.opsOf_len];omega));go_wp2_with fail;refine bodyPost_ret (v:=.slice oa j oc) (by simp[results,Tryz.results12,go_sem]) rfl ?_;refine⟨_,rfl,?_,Y.out⟩;have h1:=O.out
   rwa [HT.out]at h1
theorem KV {ops:List Sto.Op} (h:64<ops.length):Sto.chk ops=8:=by unfold Sto.chk;rw[if_pos h]
theorem Kb {ops:List Sto.Op} (h:ops.length≤64) (hb:ops.any Sto.badK=true):Sto.chk ops=1:=by unfold Sto.chk;rw[if_neg (by omega),if_pos hb]
theorem FY {o:Sto.Op} (h:o.1.length=32):(AR o)[32]?=some (.int .i64 o.2.1):=Au h _
theorem Gd {o:Sto.Op} (h:o.1.length=32):(AR o)[33]?=some (txt o.2.2):=Ae h _
theorem G5 (v:Value) (E:Sto.Ents) (w:World) (F:Nat→Prop) (h:DO w F v E) (hl:E.length≤1000000) :
  Calls Tryz.prog 11 #[v] w λe w'=>e=.returned (.int .i64 (Sto.chk E))∧w'=w:=by
 obtain⟨va,vc,rfl⟩:=h.form;have H:=QA h;clear h;go_enter Tryz.func11,Tryz.ntmps11;by_cases h64:64<E.length
 ·have Q:(64:Int)<(E.length:Int):=by omega
  go_wp2_with fail;go_ret;exact⟨by rw[KV h64];rfl,rfl⟩
 ·have Q:(E.length:Int)≤64:=by omega
  go_wp2_with fail
  go_loopg [3,10] E.length (λk s3 s10 wr=>∃(j m:Nat),j≤E.length∧k=E.length-j∧s10=.int .i64 (j:Nat)∧s3=.int .i64 (m:Nat)∧m=Sto.mass (E.take j)∧m≤j*1000000100∧(E.take j).any Sto.badK=false∧wr=w)
  case atStart=>exact⟨0,0,ZS _,rfl,rfl,rfl,rfl,ZS _,rfl,rfl⟩
  case round =>
   obtain⟨j,m,hj,hk,rfl,rfl,hm,al,G,rfl⟩:=hrel;have Z:=QA hk;have X:=QA hm;have I:=QA G;clear hk hm G;have ao:(0:Int)≤(j:Int):=Int.natCast_nonneg _;have an:(m:Int)≤64000006400:=by omega
   have ai:(0:Int)≤(m:Int):=Int.natCast_nonneg _;by_cases hjn:j<E.length
   ·have T:(j:Int)<(E.length:Int):=by omega
    obtain⟨o,W⟩:∃p,E[j]?=some p:=⟨_,ZG hjn⟩
    obtain⟨C,g,O,rfl,hg,J⟩:=H.out.at W;have R:=Sto.mass_take W;have K:E.take (j+1)=E.take j++[o]:=by rw[List.take_add_one,W];rfl
    have am:=QA K;have U:=QA R;have B:Hid (Sto.badK o=true→Sto.chk E=1):=QA λhb=>Kb (by omega) (List.any_eq_true.2 ⟨o,QZ W,hb⟩)
    have D:Hid (Sto.badK o=false→(E.take (j+1)).any Sto.badK=false):=QA λhb=>by rw[K,List.any_append,I.out];simp[hb]
    have ak:wr.cell? ⟨g,O+j*34+32,none⟩=some (.int .i64 o.2.1):=J 32 _ (FY C.key);have Y:wr.cell? ⟨g,O+j*34+33,none⟩=some (txt o.2.2):=J 33 _ (Gd C.key);unfold txt at Y;have ah:(o.2.2.length:Int)≤1000000000:=by have:=C.val;omega
    have aj:(0:Int)≤(o.2.2.length:Int):=Int.natCast_nonneg _;have ag:o.2.2.length≤1000000000:=C.val;clear W C J K R;by_cases hk1:o.2.1<0
    ·go_wp2_with fail;refine bodyPost_ret (v:=.int .i64 1) (by simp[results,Tryz.results11,go_sem]) rfl ?_;exact⟨by rw[B.out (by unfold Sto.badK;simp[hk1])],rfl⟩
    ·have ab:0≤o.2.1:=by omega
     by_cases hk2:9<o.2.1
     ·go_wp2_with fail;refine bodyPost_ret (v:=.int .i64 1) (by simp[results,Tryz.results11,go_sem]) rfl ?_;exact⟨by rw[B.out (by unfold Sto.badK;simp[hk2])],rfl⟩
     ·have af:o.2.1≤9:=by omega
      by_cases hk3:o.2.1=0
      ·have V:(o.2.1==0)=true:=by simpa using hk3
       by_cases hk4:0<o.2.2.length
       ·have N:(o.2.2 != [])=true:=by rw[bne_iff_ne];intro e;rw[e]at hk4;simp at hk4
        have S:(o.2.2==[])=false:=by rw[beq_eq_false_iff_ne];intro e;rw[e]at hk4;simp at hk4
        go_wp2_with fail;refine bodyPost_ret (v:=.int .i64 1) (by simp[results,Tryz.results11,go_sem]) rfl ?_;exact⟨by rw[B.out (by unfold Sto.badK;simp[hk3,hk4])],rfl⟩
       ·have A:o.2.2=[]:=ZW (by omega);have N:(o.2.2 != [])=false:=by rw[A];rfl
        have S:(o.2.2==[])=true:=by rw[A];rfl
        have aa:=QA A;clear A;go_wp2_with fail;go_roundg (E.length-(j+1))
        case measure=>rw[Z.out];omega
        case rel=>exact⟨j+1,m+35+o.2.2.length,by omega,rfl,by simp,by simp,by rw[U.out,X.out];omega,by omega,D.out (by unfold Sto.badK;simp only[Bool.or_eq_false_iff,Bool.and_eq_false_iff,decide_eq_false_iff_not];omega),rfl⟩
      ·have V:(o.2.1==0)=false:=by simpa using hk3
       go_wp2_with fail;go_roundg (E.length-(j+1))
       case measure=>rw[Z.out];omega
       case rel=>exact⟨j+1,m+35+o.2.2.length,by omega,rfl,by simp,by simp,by rw[U.out,X.out];omega,by omega,D.out (by unfold Sto.badK;simp only[Bool.or_eq_false_iff,Bool.and_eq_false_iff,decide_eq_false_iff_not];omega),rfl⟩
   ·have T:(E.length:Int)≤(j:Int):=by omega
    have HT:Hid (E.take j=E):=QA (List.take_of_length_le (by omega));have P:Hid (¬E.any Sto.badK=true):=QA (by have:=I.out;rw[HT.out]at this;simp[this]);have M:Hid (m=Sto.mass E):=QA (by have:=X.out;rwa [HT.out]at this);by_cases hbig:8192<m
    ·have L:(8192:Int)<(m:Int):=by omega
     go_wp2_with fail;refine bodyPost_ret (v:=.int .i64 5) (by simp[results,Tryz.results11,go_sem]) rfl ?_;refine⟨?_,rfl⟩;unfold Sto.chk;rw[if_neg (by omega),if_neg P.out,if_pos (by have:=M.out;omega)]
    ·have L:(m:Int)≤8192:=by omega
     go_wp2_with fail;refine bodyPost_ret (v:=.int .i64 0) (by simp[results,Tryz.results11,go_sem]) rfl ?_;refine⟨?_,rfl⟩;unfold Sto.chk;rw[if_neg (by omega),if_neg P.out,if_neg (by have:=M.out;omega)]
open Go.Maps Go.WideMaps
/-! ### Change -/
namespace Sto
def fin (o:Op) (out:Ents) (done:Bool) (rest:Ents):Ents:=if done then out++Cw rest o.1 else out++CQ o (Cw rest o.1)
end Sto
open Go.Maps Go.WideMaps
namespace Sto
theorem Fz (x:Op):∀l:Ents,(CQ x l).length=l.length+1
 | []=>rfl
 | y::r=>by
  unfold CQ;split
  ·rfl
  ·rw[QO,Fz x r,QO]
theorem Jt (l:Ents) (k:List UInt8):(Cw l k).length≤l.length:=List.length_filter_le _ _
theorem KH (E:Ents) (o:Op):(chg E o).length≤E.length+1:=by
 unfold chg;have:=Jt E o.1;split
 ·omega
 ·rw[Fz];omega
theorem chgs_len:∀(ops:List Op) (E:Ents),(chgs E ops).length≤E.length+ops.length
 | [],E=>QM _
 | o::r,E=>by
  have B:=chgs_len r (chg E o);have C:=KH E o;have A:chgs E (o::r)=chgs (chg E o) r:=rfl;rw[A,QO];omega
end Sto
open Go.Maps Go.WideMaps
namespace Sto
theorem wrote_first (a:Int) (ops:List Op):(wrote [(a,[])] ops).length≤1:=by
 unfold wrote;split
 ·have h:=put_snoc [] a [] ops;rw[List.nil_append]at h;rw[h,if_neg (by show ¬4096<0;omega)];simp
 ·simp
theorem wrote_first_live (a:Int) (ops:List Op):live (ents (wrote [(a,[])] ops))≤8768:=by
 rw[EB (by simp)];have o:ents [(a,([]:List (List Op)))]=[]:=rfl;split
 ·rename_i hg;have A:=live_chgs_le ops (ents [(a,[])]);obtain⟨C,B⟩:=chk_len hg.1;rw[o]at A ⊢;have:live ([]:Ents)=0:=rfl;omega
 ·rw[o];exact ZS _
theorem wcode_little {S:List Seg} {ops:List Op} (hl:live (ents S)≤8768) (hc:chk ops=0):wcode S ops=0:=by
 obtain⟨B,o⟩:=chk_len hc;have A:=live_chgs_le ops (ents S);exact wcode_ok hc (by omega)
theorem wrote_little {S:List Seg} (hne:S≠[]) {ops:List Op} (hl:live (ents S)≤8768) (hc:chk ops=0):ents (wrote S ops)=chgs (ents S) ops:=by
 rw[EB hne];split
 ·rfl
 ·rename_i hg;have o:ops=[]:=by
   refine ZW (Classical.byContradiction λh=>hg ⟨hc,?_,by omega⟩);obtain⟨C,A⟩:=chk_len hc;have B:=live_chgs_le ops (ents S);omega
  rw[o];rfl
end Sto
theorem K3 {F:Nat→Prop} {w:World} {v:Value} {l:Sto.ME} (h:Al w F v l) (hi:∀p∈l,Ih p) (hf:∀p∈l,p.1.2.2.length≤9000):∀o∈Sto.opsOf l,ROk o:=λo ho=>by
 obtain⟨p,B,rfl⟩:=List.mem_map.1 ho;obtain⟨i,A⟩:=List.getElem?_of_mem B;obtain⟨a,cap,E,_,C⟩:=h;have D:=hf p B;exact⟨(C i p A).1,(hi p B).2,by omega⟩
end Go.Proofs.YtjldahcckmmenaaGreatDoor
