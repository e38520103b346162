/-
  The law's entries, walked. The store's compact in any weather, walked.
-/
import Derived.Test.YtjldahcckmmenaaGreatDoorZc19
import Derived.Test.YtjldahcckmmenaaGreatDoorZc12
open Array renaming getInternal_eq_getElem → QD
open Go.Lib renaming hid → QA
open List renaming setIfInBounds_toArray → QC, drop_succ_cons → QE, take_succ_cons → QF, set_cons_succ → QG, set_cons_zero → QH, getElem_cons_zero → QI, getElem_cons_succ → QJ, getElem_toArray → QK, drop_zero → QL, take_zero → QN, length_map → QV, mem_of_getElem? → QZ, getElem?_map → ZF, getElem?_eq_getElem → ZG, map_cons → ZP
open Nat renaming le_refl → QM, le_trans → QQ
namespace Go.Proofs.YtjldahcckmmenaaGreatDoor
set_option maxRecDepth 100000
set_option maxHeartbeats 4000000
set_option linter.unusedSimpArgs false
set_option linter.unusedVariables false
open Go Go.RowKit
open Go.Maps Go.WideMaps
theorem Hh (b off j:Nat):(⟨b,off,none⟩:Addr).add j=⟨b,off+j,none⟩:=by
 unfold Addr.add;by_cases h:j=0
 ·rw[h];rfl
 ·simp[h]
theorem Kf:(Tryz.prog.info? 82).map (λi=>(i.zero,i.size,i.bytes))=some (some (.agg (Array.replicate 32 (.int .u8 0)++#[.int .i64 0,.string ⟨#[]⟩])),34,56):=by kernel_rfl
theorem Ko (w:World):(zeroValue 82).run Tryz.prog w=.ok (.agg (Array.replicate 32 (.int .u8 0)++#[.int .i64 0,.string ⟨#[]⟩])) w:=by kernel_rfl
theorem F7 (w:World) (o:Sto.Op) (hk:o.1.length=32):(Instr.build 82 #[(0,Ag o.1),(1,.int .i64 o.2.1),(2,txt o.2.2)]).run Tryz.prog w=.ok (.agg (AU o).toArray) w:=by
 have A:=AP o.1;unfold Instr.build;simp only[Sem.run_bind,Ko,Result.andThen_ok,run_underlying Tryz.underlying82];simp;rw[Dp hk (by simp[Value.cells]) (.int .i64 0) (.string ⟨#[]⟩) (by simp[Value.cells]) (by simp[Value.cells]) _ rfl,C7 (off:=32) rfl (by simp;omega) _ rfl,JY hk,C7 (off:=33) rfl (by simp;omega) _ rfl,Jt hk];rfl
theorem GM {o:Sto.Op}:∀u∈AU o,u.oneCell'=true:=BZ (Kd _)
section
variable {ops : Array Oper} {rest : List Oper} {op : Oper} {a : Act} {w : World} {Q : Exit → Act → World → Prop}
theorem K3 (hw:Region.wanted op (yielded ops a.tmps)=true) (x y z:Operand) (ho:op.op=.build 82 #[(0,x),(1,y),(2,z)]) (o:Sto.Op) (hk:o.1.length=32)
  (hx:a.eval x=Ag o.1) (hy:a.eval y=.int .i64 o.2.1) (hz:a.eval z=txt o.2.2) (h:wpList Tryz.prog ops Q rest (a.put op.dst (.agg (AU o).toArray)) w):wpList Tryz.prog ops Q (op::rest) a w :=
 BS hw λ_ hK=>by
  unfold Oper.wp execOp;simp only[ho,List.map_toArray,ZP,List.map_nil,hx,hy,hz,Sem.run_bind,F7 w o hk,Result.andThen_ok];exact hK _ _ h
theorem KM (hw:Region.wanted op (yielded ops a.tmps)=true) (x:Operand) (ho:op.op=.buildSlice 33 1 #[(0,x)]) (o:Sto.Op) (hk:o.1.length=32) (hx:a.eval x=.agg (AU o).toArray)
  (h:wpList Tryz.prog ops Q rest (a.put op.dst (.slice (some ⟨w.heap.size,0,none⟩) 1 1)) (w.alloc (.cells (AU o).toArray 82))):wpList Tryz.prog ops Q (op::rest) a w:=by
 obtain⟨D,F,C,B,E⟩:=info_parts Kf;refine BS hw λ_ hK=>?_
 have A:=B5 w 33 82 (AU o) D _ Tryz.underlying33 F C (by rw[B,A1 hk]) (by rw[A1 hk];omega) (by rw[A1 hk];omega);unfold Oper.wp execOp;simp only[ho,Sem.run_bind,List.map_toArray,ZP,List.map_nil,hx,A,Result.andThen_ok];exact hK _ _ h
theorem Do (hgd:op.guard=none) (s x:Operand) (ho:op.op=.call { callee:=.builtin .append,args:=#[s,x],argTypes:=#[33,33] })
  (base:Nat) (v:Value) (E:Sto.Ents) (hs:a.eval s=v) (hown:C4 w base v E) (o:Sto.Op) (hok:ROk o) (b off n c:Nat) (hx:a.eval x=.slice (some ⟨b,off,none⟩) n c) (hn:n=1) (hr:w.rangeAt b off (AU o)) (h63:E.length≤1000000000) (hbase:base≤w.heap.size)
  (h:∀v' w',C4 w' base v' (E++[o])→w.grownBy w' v.ownBlock→(v'.ownBlock=v.ownBlock∨v'.ownBlock=some w.heap.size)→wpList Tryz.prog ops Q rest (a.put op.dst v') w') :
  wpList Tryz.prog ops Q (op::rest) a w:=by
 obtain⟨D,F,C,A,B⟩:=info_parts Kf;refine wpList_append_own_at w hgd s x _ ho base 82 D (.agg (Array.replicate 32 (.int .u8 0)++#[.int .i64 0,.string ⟨#[]⟩])) 34 56 Tryz.underlying33 F C A B rfl (by decide) v E.length (Bf E) hs hown.row ⟨b,off,none⟩ n c (AU o) hx (by rw[A1 hok.key,hn]) ?_ GM (by unfold maxLen;omega) (by omega) hbase ?_
 ·intro j u hj;rw[Hh];exact hr j u hj
 ·intro v' w' g1 g2 _ g4;refine h v' w' ⟨?_,λp hp=>?_⟩ g2 g4
  ·rw[List.length_append,F4,Fc,List.length_singleton];rw[hn]at g1;exact g1
  ·rcases List.mem_append.1 hp with hp|hp
   ·exact hown.ok p hp
   ·rw[List.mem_singleton.1 hp];exact hok
theorem B9 (hg:op.guard=none) (x y:Operand) (ho:op.op=.store 40 x y) (c:Array Value) (hc:c.size=32) (k:List UInt8) (hk:k.length=32)
  (hx:a.eval x=.pointer (some ⟨w.heap.size,0,none⟩)) (hy:a.eval y=Ag k) (h:wpList Tryz.prog ops Q rest (a.put op.dst undef) (w.alloc (.cells (AH k).toArray 40))) :
  wpList Tryz.prog ops Q (op::rest) a (w.alloc (.cells c 40)) :=
 wpList_plain hg λ_ hK=>by
  have o:a.eval y=.agg (AH k).toArray:=hy;unfold Oper.wp execOp;simp only[ho,hx,o,Instr.storeAt,Instr.sureAddr,Sem.run_bind,Sem.run_pure,Result.andThen_ok,run_storeVar_new (P:=Tryz.prog) w 40 c (AH k).toArray (by rw[List.size_toArray,AP,hk];kernel_rfl) (by rw[hc,List.size_toArray,AP,hk]) (all_oneCell_toArray (DC k))];exact hK _ _ h
end
theorem KJ {l:Sto.ME} (hs:Sto.Srt (l.map (·.1))) {j:Nat} {p:Sto.Op×Value} (h:l[j]?=some p):Sto.getE (l.map (·.1)) p.1.1=(p.1.2.1,p.1.2.2,true):=by
 have A:(l.map λp=>p.1.1).Pairwise λ(x y:List UInt8)=>x≠y:=by
  unfold Sto.Srt at hs;rw[List.pairwise_map]at hs ⊢;exact hs.imp λ{a b} (h:a.1.1<b.1.1) e=>by rw[e]at h;exact List.lt_irrefl _ h
 have o:=QZ h;refine Sto.getE_some (p:=p) ?_;clear h hs
 induction l with
 | nil=>cases o
 | cons q r ih =>
  rw[ZP,List.pairwise_cons]at A;rcases List.mem_cons.1 o with rfl|hm
  ·rw[List.find?_cons_of_pos (by simp)]
  ·rw[List.find?_cons_of_neg (by
    have:=A.1 p.1.1 (List.mem_map.2 ⟨p,hm,rfl⟩)
    simpa using this)]
   exact ih A.2 hm
def HZ (E:Sto.Ents):Prop:=E.length≤1000000∧∀o∈E,ROk o
theorem An (r B mb:Nat) (ver:Int) (sv:Value) (dead:Bool) (l:Sto.ME) (w:World) (G:Nat→Prop) (hroot:w.heap[r]?=some (.cells (AF ver sv mb B dead) 51 (0,0)))
  (hm:A4 w G mb l) (hs:Sto.Srt (l.map (·.1))) (hf:HZ (l.map (·.1))) :
  Calls Tryz.prog 16 #[.pointer (some ⟨r,0,none⟩)] w λe w'=>∃v,e=.returned v∧C4 w' w.heap.size v (l.map (·.1))∧Below w.heap.size w w':=by
 have aa:l.length≤1000000:=by have:=hf.1;rwa [QV]at this
 have HM:=QA hm;have HS:=QA hs;have HF:=QA hf;have HR:=QA hroot;have y0:=rc0 hroot;have y1:=rc1 hroot;have y2:=rc2 hroot;have y3:=rc3 hroot;have y4:=rc4 hroot;clear hm hs hf hroot;go_enter Tryz.func16,Tryz.ntmps16;go_wp2_with fail;refine (Dm mb l w G HM.out HS.out aa).mono ?_;rintro e w1 ⟨kv,ks,rfl,hok,hks,hb1⟩;obtain⟨ka,kc,rfl⟩:=A7 hok;have P:ks.length=l.length:=by have:=congrArg List.length hks;rwa [QV,QV]at this
 rw[P];have ag:=QA hok;have aE:=QA hks;have J:=QA hb1;have ai:=QA P;clear hok hks hb1 P y0 y1 y2 y3 y4;go_wp2_with fail
 go_loopg [3,15] l.length (λk s3 s15 wr=>∃j:Nat,j≤l.length∧k=l.length-j∧s15=.int .i64 (j:Nat)∧C4 wr w1.heap.size s3 ((l.map (·.1)).take j)∧Below w1.heap.size w1 wr)
 case atStart=>exact⟨0,Nat.zero_le _,rfl,rfl,C4.nil _ _,Below.refl _ _⟩
 case round =>
  obtain⟨j,hj,hk,rfl,N,hB⟩:=hrel;obtain⟨oa,oc,rfl⟩:=N.form;have HK:=QA hk;have HB:=QA hB;have Y:((l.map (·.1)).take j).length=j:=by rw[List.length_take,QV];omega
  rw[Y]at N ⊢;have ad:=QA N;have ac:=QA Y;clear hk hB N Y;have aY:(0:Int)≤(j:Int):=Int.natCast_nonneg _;by_cases hjn:j<l.length
  ·have am:(j:Int)<(l.length:Int):=by omega
   obtain⟨⟨o,pv⟩,hp⟩:∃p,l[j]?=some p:=⟨_,ZG hjn⟩
   obtain⟨kk,Q⟩:∃k,ks[j]?=some k:=⟨_,ZG (by have:=ai.out;omega)⟩
   have R:kk.1=o.1:=by
    have K:(ks.map (·.1))[j]?=some kk.1:=by rw[ZF,Q];rfl
    rw[aE.out,ZF,hp]at K;exact (Option.some.inj K).symm
   obtain⟨kg,aZ,an⟩:=BX ag.out (by have:=ai.out;omega);simp only[Value.slice.injEq]at an;obtain⟨rfl,-,rfl⟩:=an;have O:o.1.length=32:=R▸kk.2;have al:wr.rangeAt kg (j*32) (AH o.1):=by
    have K:=ag.out;have:=Fx K Q;rw[R]at this;exact AQ this (HB.out.block _ (K.lt kg rfl).2)
   have ae:=KJ HS.out hp;have ao:Hid (ROk o):=QA (HF.out.2 o (List.mem_map.2 ⟨_,QZ hp,rfl⟩));have aI:=QA al;have af:=QA ae;have aG:Hid ((l.map (·.1)).take (j+1)=(l.map (·.1)).take j++[o]):=QA (by rw[List.take_add_one,ZF,hp];rfl);have A:=QA O;clear hp Q R al ae O;go_wp2_with (first|(guard_target=wpList _ _ _ ({ dst:=_,op:=.load 40 _,type:=_,pos:=_,after:=_,guard:=none }::_) _ _;refine Af rfl _ rfl kg (j*32) o.1 A.out rfl aI.out ?_)|(guard_target=wpList _ _ _ ({ dst:=_,op:=.store 40 _ _,type:=_,pos:=_,after:=_,guard:=none }::_) _ _;refine B9 rfl _ _ rfl _ rfl o.1 A.out rfl rfl ?_)|fail);have V:=AJ wr (.cells (AH o.1).toArray 40);have F:Below wr.heap.size wr (wr.alloc (.cells (AH o.1).toArray 40)):=(Below.refl _ _).alloc (QM _) _;have C:=J.out.trans (HB.out.mono J.out.size);have S:(wr.alloc (.cells (AH o.1).toArray 40)).heap[r]?=some (.cells (AF ver sv mb B dead) 51 (0,0)):=(F.block _ (by have:=AC HR.out;have:=C.size;omega)).trans ((C.block _ (AC HR.out)).trans HR.out);have W:=HM.out.below (C.trans (F.mono C.size));have T:=ad.out.keep F;obtain⟨L,X⟩:∃x,wr.alloc (.cells (AH o.1).toArray 40)=x:=⟨_,rfl⟩
   have aj:L.heap.size=wr.heap.size+1:=by rw[← X];simp
   rw[X]at V F S W T ⊢;have aH:=QA V;have aq:=QA (HB.out.trans (F.mono HB.out.size));have U:=QA S;have av:=QA W;have aC:=QA T;have ax:=QA aj;clear V F C S W T aj X;refine AK (λw'=>w'.heap[r]?=some (.cells (AF ver sv mb B dead) 51 (0,0))∧w'.rangeAt wr.heap.size 0 (AH o.1)) 13 (by kernel_rfl) ?_;have H:L.rangeAt wr.heap.size 0 (AH o.1):=λi u hi=>by rw[Nat.zero_add];exact AA aH.out i u (by simpa using hi)
   have E:L.drew.heap[r]?=some (.cells (AF ver sv mb B dead) 51 (0,0))∧L.drew.rangeAt wr.heap.size 0 (AH o.1):=⟨U.out,(World.rangeAt_drew _ _ _ _).2 H⟩
   change Ab _ _ _ _ _ _ _ _ _ L.drew;refine TK (i:=0) (v:=.pointer (some ⟨r,0,none⟩)) rfl (Or.inl ⟨by rfl,λw hSw=>by go_simp⟩) E ?_;simp only[Act.put,QD,QK,QI,QJ,QC,QH,QG];refine TK (i:=1) (v:=.pointer (some ⟨r,0,none⟩)) rfl (Or.inl ⟨by rfl,λw hSw=>by go_simp⟩) E ?_;simp only[Act.put,QD,QK,QI,QJ,QC,QH,QG];refine TK (i:=2) (v:=.pointer (some ⟨r,2,none⟩)) rfl (Or.inl ⟨by rfl,λw hSw=>by go_simp⟩) E ?_;simp only[Act.put,QD,QK,QI,QJ,QC,QH,QG];refine TK (i:=3) (v:=.map (some mb)) rfl (Or.inl ⟨by rfl,λw hSw=>by have aR:=rc2 hSw.1;go_simp⟩) E ?_;simp only[Act.put,QD,QK,QI,QJ,QC,QH,QG];refine TK (i:=4) (v:=Ag o.1) rfl (Ar rfl _ rfl wr.heap.size 0 rfl o.1 A.out (λw hSw=>hSw.2)) E ?_;simp only[Act.put,QD,QK,QI,QJ,QC,QH,QG];refine TO (i:=5) ?_;refine AD (by decide) (λK5 HK5=>?_);simp only[QE,QL,QF,QN];go_wp2_with fail;refine (Gg mb l o.1 L.drew _ (av.out.below (Below.drew (Below.refl _ _))) A.out (by rw[af.out];exact ao.out.val)).mono ?_;rw[af.out];rintro e w7 ⟨gv,rfl,hgv,hb7⟩;obtain⟨ga,gc,ap⟩:=hgv.slice;subst ap;have D:Below L.heap.size L w7:=(Below.drew (Below.refl _ L)).trans hb7;have aD:Hid (AZ w7 (.slice ga o.2.2.length gc) o.2.2):=QA hgv.byts;have I:=AQ H (D.block _ (by have:=ax.out;omega));have ah:=QA I;have M:Hid (Below w1.heap.size w1 w7):=QA (aq.out.trans (D.mono aq.out.size));have Z:=QA (aC.out.keep D);have E:w7.heap[r]?=some (.cells (AF ver sv mb B dead) 51 (0,0))∧w7.rangeAt wr.heap.size 0 (AH o.1):=⟨(D.block _ (AC U.out)).trans U.out,I⟩
   clear hgv hb7 D I H;go_wp2;refine HK5.out _ _ ⟨λ_=>E,?_⟩;clear HK5;refine TK (i:=6) (v:=.tuple #[.int .i64 o.2.1,.slice ga o.2.2.length gc,.bool true]) rfl (Or.inl ⟨by rfl,λw hSw=>by go_simp⟩) E ?_;simp only[Act.put,QD,QK,QI,QJ,QC,QH,QG];refine TK (i:=7) (v:=.int .i64 o.2.1) rfl (Or.inl ⟨by rfl,λw hSw=>by go_simp⟩) E ?_;simp only[Act.put,QD,QK,QI,QJ,QC,QH,QG];refine TK (i:=8) (v:=.slice ga o.2.2.length gc) rfl (Or.inl ⟨by rfl,λw hSw=>by go_simp⟩) E ?_;simp only[Act.put,QD,QK,QI,QJ,QC,QH,QG];refine TK (i:=9) (v:=.bool true) rfl (Or.inl ⟨by rfl,λw hSw=>by go_simp⟩) E ?_;simp only[Act.put,QD,QK,QI,QJ,QC,QH,QG];refine TK (i:=10) (v:=.int .i64 o.2.1) rfl (Or.inl ⟨by rfl,λw hSw=>by go_simp⟩) E ?_;simp only[Act.put,QD,QK,QI,QJ,QC,QH,QG];refine TK (i:=11) (v:=.slice ga o.2.2.length gc) rfl (Or.inl ⟨by rfl,λw hSw=>by go_simp⟩) E ?_;simp only[Act.put,QD,QK,QI,QJ,QC,QH,QG];refine TK (i:=12) (v:=.bool true) rfl (Or.inl ⟨by rfl,λw hSw=>by go_simp⟩) E ?_;simp only[Act.put,QD,QK,QI,QJ,QC,QH,QG];refine AL (by kernel_rfl) ?_ _;have aX:=Gy aD.out;have aU:(j:Int)+1≤1000001:=by omega
   go_wp2_with (first|(guard_target=wpList _ _ _ ({ dst:=_,op:=.load 40 _,type:=_,pos:=_,after:=_,guard:=none }::_) _ _;refine Af rfl _ rfl wr.heap.size 0 o.1 A.out rfl ah.out ?_)|(guard_target=wpList _ _ _ ({ dst:=_,op:=.build 82 _,type:=_,pos:=_,after:=_,guard:=_ }::_) _ _;refine K3 rfl _ _ _ rfl o A.out rfl rfl rfl ?_)|(guard_target=wpList _ _ _ ({ dst:=_,op:=.buildSlice 33 _ _,type:=_,pos:=_,after:=_,guard:=_ }::_) _ _;refine KM rfl _ rfl o A.out rfl ?_)|(at_builtin;refine Do rfl _ _ rfl w1.heap.size (.slice oa j oc) ((l.map (·.1)).take j) rfl (Z.out.keep ((Below.refl _ _).alloc (QM _) _)) o ao.out w7.heap.size 0 1 1 rfl rfl (λi u hi=>by rw[Nat.zero_add];exact AA (AJ w7 _) i u (by simpa using hi)) (by rw[ac.out];omega) (by have:=M.out.size;simp;omega) ?_;intro v8 w8 ho8 hg8 hl8;obtain⟨a8,c8,ay⟩:=ho8.form;subst ay;have aA:=QA ho8;have aF:=QA hg8;clear ho8 hg8 hl8)|fail);go_roundg (l.length-(j+1))
   case measure=>rw[HK.out];omega
   case rel =>
    refine⟨j+1,by omega,rfl,by simp,by rw[aG.out];have h8:=aA.out;rw[List.length_append,ac.out]at h8;exact h8,?_⟩;have K:Below w1.heap.size w1 (w7.alloc (.cells (AU o).toArray 82)):=M.out.alloc M.out.size _;exact K.grown aF.out (by have:=M.out.size;simp;omega) (λg hg=>(Z.out.row.lt g hg).1)
  ·have am:(l.length:Int)≤(j:Int):=by omega
   have HT:Hid ((l.map (·.1)).take j=l.map (·.1)):=QA (List.take_of_length_le (by rw[QV];omega));go_wp2_with fail;refine bodyPost_ret (v:=.slice oa j oc) (by simp[results,Tryz.results16,go_sem]) rfl ?_;refine⟨_,rfl,?_,J.out.trans (HB.out.mono J.out.size)⟩;have K:=ad.out;rw[HT.out]at K;have:=J.out.size;exact⟨ownsRow_base_a (by have:=K.row;exact this) this,K.ok⟩
open Go.Maps Go.WideMaps
namespace Sto
section
variable {f : Fs.St} {s : St}
theorem compact_c (h:(Sg.create f (active s+1)).2≠0):compact f s=((Sg.create f (active s+1)).1,s,(Sg.create f (active s+1)).2):=by unfold compact;simp only;rw[if_pos h]
theorem compact_a (h:(Sg.create f (active s+1)).2=0) (h2:(compactGo (active s+1) s.E (Sg.create f (active s+1)).1).2≠0) :
  compact f s=((compactGo (active s+1) s.E (Sg.create f (active s+1)).1).1,s,(compactGo (active s+1) s.E (Sg.create f (active s+1)).1).2):=by unfold compact;simp only;rw[if_neg (by rw[h];simp),if_pos h2]
theorem compact_m (h:(Sg.create f (active s+1)).2=0) (h2:(compactGo (active s+1) s.E (Sg.create f (active s+1)).1).2=0) (h3:(Mf.save (compactGo (active s+1) s.E (Sg.create f (active s+1)).1).1 (wrap64 (s.ver+1)) [active s+1]).2≠0) :
  compact f s=((Mf.save (compactGo (active s+1) s.E (Sg.create f (active s+1)).1).1 (wrap64 (s.ver+1)) [active s+1]).1,s,(Mf.save (compactGo (active s+1) s.E (Sg.create f (active s+1)).1).1 (wrap64 (s.ver+1)) [active s+1]).2):=by
 unfold compact;simp only;rw[if_neg (by rw[h];simp),if_neg (by rw[h2];simp),if_pos h3]
theorem compact_d (h:(Sg.create f (active s+1)).2=0) (h2:(compactGo (active s+1) s.E (Sg.create f (active s+1)).1).2=0) (h3:(Mf.save (compactGo (active s+1) s.E (Sg.create f (active s+1)).1).1 (wrap64 (s.ver+1)) [active s+1]).2=0) :
  compact f s=((Fs.clean (Mf.save (compactGo (active s+1) s.E (Sg.create f (active s+1)).1).1 (wrap64 (s.ver+1)) [active s+1]).1 (wrap64 (s.ver+1)) [active s+1]).1,{ s with ver:=wrap64 (s.ver+1),segs:=[active s+1] },
   (Fs.clean (Mf.save (compactGo (active s+1) s.E (Sg.create f (active s+1)).1).1 (wrap64 (s.ver+1)) [active s+1]).1 (wrap64 (s.ver+1)) [active s+1]).2.2):=by
 unfold compact;simp only;rw[if_neg (by rw[h];simp),if_neg (by rw[h2];simp),if_neg (by rw[h3];simp)]
end
theorem append_sound {st:Fs.St} {k:Nat} (hs:Fs.Sound st k) (hp:Fs.PlanOK st) (id:Int) (p:List UInt8):Fs.Sound (Sg.append st id 1 p).1 k∧Fs.PlanOK (Sg.append st id 1 p).1:=by
 unfold Sg.append;split
 ·exact⟨hs,hp⟩
 split
 ·exact⟨hs,hp⟩
 split
 ·exact⟨hs.append _ _,hp.of (Fs.plan_append _ _ _)⟩
 ·exact⟨(hs.append _ _).sync _,(hp.of (Fs.plan_append _ _ _)).of (Fs.plan_sync _ _)⟩
theorem create_sound {st:Fs.St} {k:Nat} (hs:Fs.Sound st k) (hp:Fs.PlanOK st) (id:Int):Fs.Sound (Sg.create st id).1 (k+2)∧Fs.PlanOK (Sg.create st id).1:=by
 unfold Sg.create;split
 ·exact⟨hs.mono (by omega),hp⟩
 split
 ·exact⟨hs.create _,hp.of (Fs.plan_create _ _)⟩
 ·exact⟨(hs.create _).syncDir,(hp.of (Fs.plan_create _ _)).of (Fs.plan_syncDir _)⟩
end Sto
theorem Jr {w:World} {mb:Nat} {l:Sto.ME} (hm:w.ownsMap Tryz.prog 40 Sto.elemR mb l.length (Sto.datum l)) (hs:Sto.Srt (l.map (·.1))) {j:Nat} {p:Sto.Op×Value} (hp:l[j]?=some p) (hk:p.1.1.length=32) :
  (Instr.lookup 49 (.map (some mb)) (Ag p.1.1) false).run Tryz.prog w=.ok (Sto.elemV p.1 p.2) w:=by
 obtain⟨v,F,o,D⟩:=hm.lookup BO Tryz.underlying49 (IB w) (Sto.elemR_mk 0 none 0 0) (Cf hk);have C:=(Prod.mk.inj (Sto.elemR_inv D)).1;rw[Sto.datum_find]at C;have B:(l.map λp=>p.1.1).Pairwise λ(x y:List UInt8)=>x≠y:=by
  unfold Sto.Srt at hs;rw[List.pairwise_map]at hs ⊢;exact hs.imp λ{a b} (h:a.1.1<b.1.1) e=>by rw[e]at h;exact List.lt_irrefl _ h
 have E:l.find? (λq=>q.1.1==p.1.1)=some p:=by
  have A:=QZ hp;clear o D C hs hp hm
  induction l with
  | nil=>cases A
  | cons q r ih =>
   rw[ZP,List.pairwise_cons]at B;rcases List.mem_cons.1 A with rfl|hm
   ·rw[List.find?_cons_of_pos (by simp)]
   ·rw[List.find?_cons_of_neg (by
     have:=B.1 p.1.1 (List.mem_map.2 ⟨p,hm,rfl⟩)
     simpa using this)]
    exact ih B.2 hm
 rw[E]at C;rw[o];have:v=Sto.elemV p.1 p.2:=by simpa using C.symm
 rw[this]
theorem Ez {ops:Array Oper} {S:World→Prop} {op:Oper} {a:Act} (hw:Region.wanted op (yielded ops a.tmps)=true) (m x:Operand) (ho:op.op=.lookup 49 m x false) (mb:Nat) (hm:a.eval m=.map (some mb)) (k:List UInt8) (hx:a.eval x=Ag k) (v:Value)
  (hS:∀w,S w→(Instr.lookup 49 (.map (some mb)) (Ag k) false).run Tryz.prog w=.ok v w):YieldsIf Tryz.prog ops S op v a :=
 .inl ⟨hw,λw h=>by simp[execOp,ho,hm,hx,hS w h,Result.andThen]⟩
theorem GV {ops:Array Oper} {S:World→Prop} {op:Oper} {a:Act} (hw:Region.wanted op (yielded ops a.tmps)=true) (x y z:Operand) (ho:op.op=.build 43 #[(0,x),(1,y),(2,z)]) (k:List UInt8) (hk:k.length=32) (n:Int) (b:List UInt8) (v:Value) (hv:v.cells=#[v])
  (hx:a.eval x=Ag k) (hy:a.eval y=.int .i64 n) (hz:a.eval z=v):YieldsIf Tryz.prog ops S op (.agg (AG (k,n,b) v).toArray) a :=
 .inl ⟨hw,λw h=>by simp[execOp,ho,hx,hy,hz,Cq w k hk n b v hv,Result.andThen]⟩
def LI (base B r mb:Nat) (c:Fs.St×Sto.St×Int) (own:Nat→Tag) (dead:Bool) (w:World) (e:Ending) (w':World):Prop :=
 e=.returned (.int .i64 c.2.2)∧∃V' own' sv',Aa base B c.1 V' own' w'∧SFr r own own' w w'∧Below base w w'∧w'.heap[r]?=some (.cells (AF c.2.1.ver sv' mb B dead) 51 (0,0))∧Ca w' (SF r own') sv' c.2.1.segs
theorem Jb {w:World} {g:Nat} {v:Value} {l:List UInt8} (h:w.heap[g]?=some (.cells #[v] 41 (0,0))) (hb:AZ w v l):B2 w (.slice (some ⟨g,0,none⟩) 1 1) [l] :=
 ⟨some ⟨g,0,none⟩,1,rfl,QM _,λi x hx=>by
  have o:i=0:=by have:=(List.getElem?_eq_some_iff.1 hx).1;simp at this;omega
  subst o;simp at hx;subst hx;exact⟨g,0,v,rfl,AC h,AA h 0 _ rfl,hb⟩⟩
structure Cu (base B r mb:Nat) (ver:Int) (sv:Value) (dead:Bool) (own own2:Nat→Tag) (k:Nat) (w wk x:World) (g:Fs.St) (V:FsV) (own3:Nat→Tag):Prop where
 fs:Aa base B g V own3 x
 fr:SFr r own own3 w x
 fk:SFr r own2 own3 wk x
 bel:Below base w x
 root:x.heap[r]?=some (.cells (AF ver sv mb B dead) 51 (0,0))
 mine:own3 r=.other
 sound:Fs.Sound g k∧Fs.PlanOK g
theorem Cu.below {base B r mb:Nat} {ver:Int} {sv:Value} {dead:Bool} {own own2 own3:Nat→Tag} {k:Nat} {w wk x y:World} {g:Fs.St} {V:FsV} (h:Cu base B r mb ver sv dead own own2 k w wk x g V own3) (hb:Below x.heap.size x y) (hbase:base≤x.heap.size):Cu base B r mb ver sv dead own own2 k w wk y g V own3 :=
 ⟨h.fs.kept (AB hb),h.fr.trans (SFr.below hb),h.fk.trans (SFr.below hb),h.bel.trans (hb.mono hbase),(hb.block r (AC h.root)).trans h.root,h.mine,h.sound⟩
theorem Cu.step {base B r mb:Nat} {ver:Int} {sv:Value} {dead:Bool} {own own2 own3:Nat→Tag} {k k':Nat} {w wk x y:World} {g g':Fs.St} {V:FsV} (h:Cu base B r mb ver sv dead own own2 k w wk x g V own3) (hp:AM base B g' own3 x y) (hbase:base≤x.heap.size) (hs:Fs.Sound g' k'∧Fs.PlanOK g') :
  ∃V' own4,Cu base B r mb ver sv dead own own2 k' w wk y g' V' own4∧SFr r own3 own4 x y:=by
 have E:=AM.below0 h.fs hp hbase;obtain⟨V',own4,D,A,C⟩:=hp;have o:SFr r own3 own4 x y:=SFr.kept A C;exact⟨V',own4,⟨D,h.fr.trans o,h.fk.trans o,h.bel.trans E,(C.block r (AC h.root) (by rw[h.mine];simp)).trans h.root,(A r (AC h.root)).trans h.mine,hs⟩,o⟩
theorem F5 (base B r mb:Nat) (f:Fs.St) (V:FsV) (own:Nat→Tag) (ver:Int) (sv:Value) (segs:List Int) (dead:Bool) (l:Sto.ME) (k:Nat) (w:World)
  (h:Aa base B f V own w) (hE:Ay base w) (hbase:base≤w.heap.size) (hrb:base≤r) (hroot:w.heap[r]?=some (.cells (AF ver sv mb B dead) 51 (0,0))) (hr0:own r=.other)
  (hN:Ca w (SF r own) sv segs) (hne:segs≠[]) (hfew:segs.length≤1000000) (hent:CU w (SF r own) mb l) (hsrt:Sto.Srt (l.map (·.1))) (hll:l.length≤1000000) (hgood:∀p∈l,(0≤p.1.2.1∧p.1.2.1≤9)∧p.1.2.2.length≤8192)
  (hS:Fs.Sound f k) (hk:k≤100000) (hP:Fs.PlanOK f) (hact:-1000000000≤segs.getLastD 0∧segs.getLastD 0≤1000000000) :
  Calls Tryz.prog 50 #[.pointer (some ⟨r,0,none⟩)] w (LI base B r mb (Sto.compact f ⟨ver,segs,l.map (·.1),dead⟩) own dead w):=by
 have du:=AC hroot;obtain⟨a0,bM⟩:∃x,segs.getLastD 0=x:=⟨_,rfl⟩
 have cX:=QA bM;obtain⟨E,bN⟩:∃x,a0+1=x:=⟨_,rfl⟩
 have bd:wrap64 (a0+1)=E:=by rw[← bN];unfold wrap64;omega
 have cs:Sto.active ⟨ver,segs,l.map (·.1),dead⟩+1=E:=by rw[← bN,← bM];rfl
 have cB:=QA bd;have L:=QA cs;have H:=QA h;have HE:=QA hE;have HR:=QA hroot;have dc:=QA hr0;have HN:=QA hN;have cJ:=QA hent;have a9:=QA hsrt;have bL:=QA hgood;have HS:=QA hS;have HP:=QA hP;have y0:=rc0 hroot;have y1:=rc1 hroot;have y2:=rc2 hroot;have y3:=rc3 hroot;have y4:=rc4 hroot;clear h hE hroot hr0 hN hent hsrt hgood hS hP bd cs bN bM;go_enter Tryz.func50,Tryz.ntmps50;go_wp2_with fail;refine (Bb w r B mb ver sv dead segs HR.out HN.out.1 hne hfew).mono ?_;rintro e w1 ⟨rfl,n1,rfl⟩;rw[cX.out];have aD:Below w.heap.size w (w.drewN n1):=Below.drewN (Below.refl _ w) n1;have aF:=QA aD;have ax:Hid ((w.drewN n1).heap[r]?=some (.cells (AF ver sv mb B dead) 51 (0,0))):=QA HR.out;clear y0 y1 y2 y3 y4 aD;obtain⟨w1,b6⟩:∃x,w.drewN n1=x:=⟨_,rfl⟩
 rw[b6]at aF ax ⊢;clear b6;have y0:=rc0 ax.out;have y1:=rc1 ax.out;have y2:=rc2 ax.out;have y3:=rc3 ax.out;have y4:=rc4 ax.out;have ci:=aF.out.size;go_wp2_with fail;rw[cB.out];refine (B4 base B f V own E w1 (H.out.kept (AB aF.out)) (HE.out.below (aF.out.mono hbase)) (QQ hbase ci) (HS.out.small (by omega))).mono ?_;rintro e w2 ⟨rfl,hp2⟩;have aV:Cu base B r mb ver sv dead own own k w w w1 f V own:=(Cu.mk H.out (SFr.refl _ _ _) (SFr.refl _ _ _) (Below.refl _ _) HR.out dc.out ⟨HS.out,HP.out⟩:Cu base B r mb ver sv dead own own k w w w f V own).below aF.out hbase;obtain⟨V2,K,aO,aG⟩:=aV.step hp2 (QQ hbase ci) (Sto.create_sound HS.out HP.out E);have D:=QA aO;clear y0 y1 y2 y3 y4 hp2 aV aO aG;have y0:=rc0 D.out.root;have y1:=rc1 D.out.root;have y2:=rc2 D.out.root;have y3:=rc3 D.out.root;have y4:=rc4 D.out.root;have dd:=D.out.fr.size;by_cases hc:(Sg.create f E).2=0
 case neg =>
  have HC:Hid (Sto.compact f ⟨ver,segs,l.map (·.1),dead⟩=((Sg.create f E).1,⟨ver,segs,l.map (·.1),dead⟩,(Sg.create f E).2)):=QA (by
   have:=Sto.compact_c (f:=f) (s:=⟨ver,segs,l.map (·.1),dead⟩) (by rw[L.out];exact hc)
   rwa [L.out]at this)
  obtain⟨c,cv⟩:∃c,(Sg.create f E).2=c:=⟨_,rfl⟩
  rw[cv]at hc HC ⊢;have cH:(c != 0)=true:=bne_iff_ne.2 hc;clear cv hc;go_wp2_with fail;refine bodyPost_ret (v:=.int .i64 c) (by simp[results,Tryz.results50,go_sem]) rfl ?_;rw[HC.out];exact⟨rfl,V2,K,sv,D.out.fs,D.out.fr,D.out.bel,D.out.root,HN.out.mv D.out.fr.mv⟩
 have HC:=QA hc;rw[hc];clear hc;obtain⟨f2,aG⟩:∃g,(Sg.create f E).1=g:=⟨_,rfl⟩
 rw[aG]at D;have af:=QA aG;clear aG;have P:=QA (cJ.out.mv D.out.fr.mv);go_wp2_with fail;refine (Dm mb l w2 (SF r K) ⟨P.out.map,P.out.key,P.out.val⟩ a9.out hll).mono ?_;rintro e wk ⟨kv,ks,rfl,hok,hks,hbk⟩;obtain⟨ka,kc,rfl⟩:=A7 hok;have bh:ks.length=l.length:=by have:=congrArg List.length hks;rwa [QV,QV]at this
 rw[bh];have aZ:base≤w2.heap.size:=QQ hbase dd;have bK:Hid (Cu base B r mb ver sv dead own K (k+2) w wk wk f2 V2 K):=QA (by
  have h1:=D.out.below hbk aZ;exact⟨h1.fs,h1.fr,SFr.refl _ _ _,h1.bel,h1.root,h1.mine,h1.sound⟩)
 have bJ:=QA (P.out.mv (SFr.below (r:=r) (own:=K) hbk).mv);have bA:=QA hok;have c7:=QA hks;have ck:=QA bh;have dt:=hbk.size;have ch:Hid (∀b,w2.heap.size≤b→K b=.other∧b≠r):=QA λb hb=>⟨D.out.fs.fresh b hb,by have:=AC D.out.root;omega⟩
 clear hok hks bh hbk y0 y1 y2 y3 y4 D P;go_wp2_with fail
 go_loopg [31] l.length (λdn s31 wr=>∃(j:Nat) (g:Fs.St) (V3:FsV) (R:Nat→Tag),s31=.int .i64 (j:Nat)∧j≤l.length∧dn=l.length-j∧Cu base B r mb ver sv dead own K (k+2) w wk wr g V3 R∧Sto.compactGo E ((l.map (·.1)).drop j) g=Sto.compactGo E (l.map (·.1)) f2)
 case atStart=>exact⟨0,f2,V2,K,rfl,Nat.zero_le _,rfl,bK.out,rfl⟩
 case round =>
  obtain⟨j,g,V3,R,rfl,hj,cI,aJ,cE⟩:=hrel;have HK:=QA cI;have F:=QA aJ;have cx:=QA cE;clear cI aJ cE;have dC:(0:Int)≤(j:Int):=Int.natCast_nonneg _;have dr:=F.out.fk.size;have ap:base≤wr.heap.size:=QQ hbase F.out.fr.size;by_cases hjn:j<l.length
  ·have ct:(j:Int)<(l.length:Int):=by omega
   obtain⟨⟨o,pv⟩,hp⟩:∃p,l[j]?=some p:=⟨_,ZG hjn⟩
   obtain⟨kk,bi⟩:∃k,ks[j]?=some k:=⟨_,ZG (by have:=ck.out;omega)⟩
   have bj:kk.1=o.1:=by
    have h1:(ks.map (·.1))[j]?=some kk.1:=by rw[ZF,bi];rfl
    rw[c7.out,ZF,hp]at h1;exact (Option.some.inj h1).symm
   obtain⟨kg,dD,cw⟩:=BX bA.out (by have:=ck.out;omega);simp only[Value.slice.injEq]at cw;obtain⟨rfl,-,rfl⟩:=cw;have aS:o.1.length=32:=bj▸kk.2;have aR:=bA.out.lt kg rfl;have cq:wr.rangeAt kg (j*32) (AH o.1):=by
    have:=Fx bA.out bi;rw[bj]at this;have hf:=ch.out kg aR.1;exact AQ this (F.out.fk.block kg aR.2 hf.1 hf.2)
   have U:=QA (bJ.out.mv F.out.fk.mv);have bx:=U.out.val _ (QZ hp);obtain⟨pa,pc,b3,dy⟩:=bx.1.form;simp only at b3;subst b3;have bf:Hid (∀x:World,x.heap[mb]?=wr.heap[mb]?→(Instr.lookup 49 (.map (some mb)) (Ag o.1) false).run Tryz.prog x=.ok (.agg #[.int .i64 o.2.1,.slice pa o.2.2.length pc]) x):=QA λx hx=>Jr (ownsMap_at U.out.map hx) a9.out hp aS
   have bq:=QA (bL.out _ (QZ hp));have cU:Hid ((l.map (·.1)).drop j=o::(l.map (·.1)).drop (j+1)):=QA (by
    have h1:(l.map (·.1))[j]?=some o:=by rw[ZF,hp];rfl
    obtain⟨h2,h3⟩:=List.getElem?_eq_some_iff.1 h1;rw[List.drop_eq_getElem_cons h2,h3])
   have cO:=QA bx;have cy:=QA cq;have Q:=QA aS;clear hp bi bj cq aS bx aR;go_wp2_with (first|(guard_target=wpList _ _ _ ({ dst:=_,op:=.load 40 _,type:=_,pos:=_,after:=_,guard:=none }::_) _ _;refine Af rfl _ rfl kg (j*32) o.1 Q.out rfl cy.out ?_)|(guard_target=wpList _ _ _ ({ dst:=_,op:=.store 40 _ _,type:=_,pos:=_,after:=_,guard:=none }::_) _ _;refine B9 rfl _ _ rfl _ rfl o.1 Q.out rfl rfl ?_)|fail);have bH:=AJ wr (.cells (AH o.1).toArray 40);have aI:Below wr.heap.size wr (wr.alloc (.cells (AH o.1).toArray 40)):=(Below.refl _ _).alloc (QM _) _;obtain⟨W,bw⟩:∃x,wr.alloc (.cells (AH o.1).toArray 40)=x:=⟨_,rfl⟩
   have cz:W.heap.size=wr.heap.size+1:=by rw[← bw];simp
   rw[bw]at bH aI ⊢;have cl:=QA (F.out.below aI ap);have co:Hid (W.heap[mb]?=wr.heap[mb]?):=QA (aI.block mb U.out.map.lt);have bb:=QA bH;have b9:=QA aI;have aN:=QA cz;clear bH aI cz bw;refine AK (λw'=>w'.heap[r]?=some (.cells (AF ver sv mb B dead) 51 (0,0))∧w'.rangeAt wr.heap.size 0 (AH o.1)∧w'.heap[mb]?=wr.heap[mb]?) 8 (by kernel_rfl) ?_;have aC:W.rangeAt wr.heap.size 0 (AH o.1):=λi u hi=>by rw[Nat.zero_add];exact AA bb.out i u (by simpa using hi)
   have da:=QA aC;have O:Hid (∀y,Below W.heap.size W y→y.heap[r]?=some (.cells (AF ver sv mb B dead) 51 (0,0))∧y.rangeAt wr.heap.size 0 (AH o.1)∧y.heap[mb]?=wr.heap[mb]?):=QA λy hy =>
    ⟨(hy.block r (AC cl.out.root)).trans cl.out.root,AQ aC (hy.block _ (by have:=aN.out;omega)),(hy.block mb (by have:=U.out.map.lt;have:=aN.out;omega)).trans co.out⟩
   have hS:=O.out W.drew (Below.drew (Below.refl _ _));change Ab _ _ _ _ _ _ _ _ _ W.drew;clear aC;refine TK (i:=0) (v:=.pointer (some ⟨r,0,none⟩)) rfl (Or.inl ⟨by rfl,λw hSw=>by go_simp⟩) hS ?_;simp only[Act.put,QD,QK,QI,QJ,QC,QH,QG];refine TK (i:=1) (v:=.pointer (some ⟨r,0,none⟩)) rfl (Or.inl ⟨by rfl,λw hSw=>by go_simp⟩) hS ?_;simp only[Act.put,QD,QK,QI,QJ,QC,QH,QG];refine TK (i:=2) (v:=.pointer (some ⟨r,2,none⟩)) rfl (Or.inl ⟨by rfl,λw hSw=>by go_simp⟩) hS ?_;simp only[Act.put,QD,QK,QI,QJ,QC,QH,QG];refine TK (i:=3) (v:=.map (some mb)) rfl (Or.inl ⟨by rfl,λw hSw=>by have bl:=rc2 hSw.1;go_simp⟩) hS ?_;simp only[Act.put,QD,QK,QI,QJ,QC,QH,QG];refine TK (i:=4) (v:=Ag o.1) rfl (Ar rfl _ rfl wr.heap.size 0 rfl o.1 Q.out (λw hSw=>hSw.2.1)) hS ?_;simp only[Act.put,QD,QK,QI,QJ,QC,QH,QG];refine TK (i:=5) (v:=.agg #[.int .i64 o.2.1,.slice pa o.2.2.length pc]) rfl (Ez rfl _ _ rfl mb rfl o.1 rfl _ (λw hSw=>bf.out w hSw.2.2)) hS ?_;simp only[Act.put,QD,QK,QI,QJ,QC,QH,QG];refine TO (i:=6) ?_;refine AD (by decide) (λK6 HK6=>?_);simp only[QE,QL,QF,QN];go_wp2_with fail;have hS:=O.out (W.drew.alloc (.cells #[.int .i64 0,.slice none 0 0] 85)) ((Below.drew (Below.refl _ _)).alloc (QM _) _);refine HK6.out _ _ ⟨λ_=>hS,?_⟩;clear HK6;refine TO (i:=7) ?_;refine AD (by decide) (λK7 HK7=>?_);simp only[QE,QL,QF,QN];go_wp2_with fail;have hS:=O.out (W.drew.alloc (.cells #[.int .i64 o.2.1,.slice pa o.2.2.length pc] 85)) ((Below.drew (Below.refl _ _)).alloc (QM _) _);refine HK7.out _ _ ⟨λ_=>hS,?_⟩;clear HK7;refine AL (by kernel_rfl) ?_ _;go_wp2_with fail;clear hS co bf U cy bb O;have ag:=AJ W (.cells #[.int .i64 o.2.1,.slice pa o.2.2.length pc] 85);have aK:Below W.heap.size W (W.alloc (.cells #[.int .i64 o.2.1,.slice pa o.2.2.length pc] 85)).drew:=Below.drew ((Below.refl _ _).alloc (QM _) _);have ag:(W.alloc (.cells #[.int .i64 o.2.1,.slice pa o.2.2.length pc] 85)).drew.heap[W.heap.size]?=some (.cells #[.int .i64 o.2.1,.slice pa o.2.2.length pc] 85 (0,0)):=ag;obtain⟨wb,b8⟩:∃x,(W.alloc (.cells #[.int .i64 o.2.1,.slice pa o.2.2.length pc] 85)).drew=x:=⟨_,rfl⟩
   rw[b8]at aK ag ⊢;clear b8;have aB:Below wr.heap.size wr wb:=b9.out.trans (aK.mono b9.out.size);have ca:=QA (F.out.below aB ap);have ao:=QA aB;have bV:wb.rangeAt wr.heap.size 0 (AH o.1):=AQ da.out (aK.block _ (by have:=aN.out;omega));have bk:Hid (∀y,Below wb.heap.size wb y→y.heap[r]?=some (.cells (AF ver sv mb B dead) 51 (0,0))∧y.rangeAt wr.heap.size 0 (AH o.1)∧y.heap[W.heap.size]?=some (.cells #[.int .i64 o.2.1,.slice pa o.2.2.length pc] 85 (0,0))):=QA λy hy =>
    ⟨(hy.block r (AC ca.out.root)).trans ca.out.root,AQ bV (hy.block _ (by have:=aN.out;have:=aK.size;omega)),(hy.block _ (AC ag)).trans ag⟩
   have cc:=AC ag;have c0:=QA cc;clear aK ag aB bV cc;refine AK (λw'=>w'.heap[r]?=some (.cells (AF ver sv mb B dead) 51 (0,0))∧w'.rangeAt wr.heap.size 0 (AH o.1)∧w'.heap[W.heap.size]?=some (.cells #[.int .i64 o.2.1,.slice pa o.2.2.length pc] 85 (0,0))) 15 (by kernel_rfl) ?_;have hS:=bk.out wb.drew (Below.drew (Below.refl _ _));change Ab _ _ _ _ _ _ _ _ _ wb.drew;refine TK (i:=0) (v:=.pointer (some ⟨r,0,none⟩)) rfl (Or.inl ⟨by rfl,λw hSw=>by go_simp⟩) hS ?_;simp only[Act.put,QD,QK,QI,QJ,QC,QH,QG];refine TK (i:=1) (v:=.pointer (some ⟨r,0,none⟩)) rfl (Or.inl ⟨by rfl,λw hSw=>by go_simp⟩) hS ?_;simp only[Act.put,QD,QK,QI,QJ,QC,QH,QG];refine TK (i:=2) (v:=.pointer (some ⟨r,3,none⟩)) rfl (Or.inl ⟨by rfl,λw hSw=>by go_simp⟩) hS ?_;simp only[Act.put,QD,QK,QI,QJ,QC,QH,QG];refine TK (i:=3) (v:=.pointer (some ⟨B,0,none⟩)) rfl (Or.inl ⟨by rfl,λw hSw=>by have bl:=rc3 hSw.1;go_simp⟩) hS ?_;simp only[Act.put,QD,QK,QI,QJ,QC,QH,QG];refine TK (i:=4) (v:=.int .i64 E) rfl (Or.inl ⟨by rfl,λw hSw=>by go_simp⟩) hS ?_;simp only[Act.put,QD,QK,QI,QJ,QC,QH,QG];refine TK (i:=5) (v:=Ag o.1) rfl (Ar rfl _ rfl wr.heap.size 0 rfl o.1 Q.out (λw hSw=>hSw.2.1)) hS ?_;simp only[Act.put,QD,QK,QI,QJ,QC,QH,QG];refine TK (i:=6) (v:=.pointer (some ⟨W.heap.size,0,none⟩)) rfl (Or.inl ⟨by rfl,λw hSw=>by go_simp⟩) hS ?_;simp only[Act.put,QD,QK,QI,QJ,QC,QH,QG];refine TK (i:=7) (v:=.int .i64 o.2.1) rfl (Or.inl ⟨by rfl,λw hSw=>by have bl:=AA hSw.2.2 0 _ rfl;go_simp⟩) hS ?_;simp only[Act.put,QD,QK,QI,QJ,QC,QH,QG];refine TK (i:=8) (v:=.pointer (some ⟨W.heap.size,1,none⟩)) rfl (Or.inl ⟨by rfl,λw hSw=>by go_simp⟩) hS ?_;simp only[Act.put,QD,QK,QI,QJ,QC,QH,QG];refine TK (i:=9) (v:=.slice pa o.2.2.length pc) rfl (Or.inl ⟨by rfl,λw hSw=>by have bl:=AA hSw.2.2 1 _ rfl;go_simp⟩) hS ?_;simp only[Act.put,QD,QK,QI,QJ,QC,QH,QG];refine TK (i:=10) (v:=.agg (AG o (.slice pa o.2.2.length pc)).toArray) rfl (GV rfl _ _ _ rfl o.1 Q.out _ o.2.2 _ rfl rfl rfl rfl) hS ?_;simp only[Act.put,QD,QK,QI,QJ,QC,QH,QG];refine TO (i:=11) ?_;refine AD (by decide) (λK11 HK11=>?_);simp only[QE,QL,QF,QN];go_wp2_with fail;refine (C1 o (.slice pa o.2.2.length pc) wb.drew Q.out bq.out.1 (cO.out.1.below (ao.out.trans ((Below.drew (Below.refl _ wb)).mono ao.out.size))) bq.out.2).mono ?_;rintro e wc ⟨bv,rfl,hob,hbc⟩;obtain⟨ba,bc,c8⟩:=hob.slice;subst c8;have bz:Hid (Below wb.heap.size wb wc):=QA ((Below.drew (Below.refl _ wb)).trans hbc);have c4:=QA hob.byts;have hS:=bk.out wc bz.out;clear hob hbc;go_wp2;refine HK11.out _ _ ⟨λ_=>hS,?_⟩;clear HK11;refine TO (i:=12) ?_;refine AD (by decide) (λK12 HK12=>?_);simp only[QE,QL,QF,QN];go_wp2_with fail;have a1:Below wb.heap.size wb (wc.alloc (.cells #[.slice ba (Sto.bytes o).length bc] 41)):=bz.out.alloc bz.out.size _;have hS:=bk.out _ a1;refine HK12.out _ _ ⟨λ_=>hS,?_⟩;clear HK12;have b0:Hid (B2 (wc.alloc (.cells #[.slice ba (Sto.bytes o).length bc] 41)) (.slice (some ⟨wc.heap.size,0,none⟩) 1 1) [Sto.bytes o]):=QA (Jb (AJ wc _) (c4.out.below ((Below.refl _ _).alloc (QM _) _)));obtain⟨wd,cD⟩:∃x,wc.alloc (.cells #[.slice ba (Sto.bytes o).length bc] 41)=x:=⟨_,rfl⟩
   rw[cD]at a1 hS b0 ⊢;clear cD;have aX:Below wr.heap.size wr wd:=ao.out.trans (a1.mono ao.out.size);have ah:=QA (F.out.below aX ap);have bX:=QQ ap aX.size;have dl:=a1.size;refine TO (i:=13) ?_;refine AD (by decide) (λK13 HK13=>?_);simp only[QE,QL,QF,QN];go_wp2_with fail;have bI:=B6 base B g V3 R E 1 (.slice (some ⟨wc.heap.size,0,none⟩) 1 1) [Sto.bytes o] wd ah.out.fs (HE.out.below ah.out.bel) bX (ah.out.sound.1.small (by omega)) b0.out (by simp) (λx hx=>by rw[List.mem_singleton.1 hx,Sto.bytes_len Q.out];have:=bq.out.2;omega) ah.out.sound.2.how;rw[show [Sto.bytes o].flatten=Sto.bytes o by simp]at bI;refine bI.mono ?_;rintro e w5 ⟨rfl,hp5⟩;clear bI;obtain⟨V5,J,M,N⟩:=ah.out.step hp5 bX (Sto.append_sound ah.out.sound.1 ah.out.sound.2 E (Sto.bytes o));have aa:∀b,wr.heap.size≤b→R b=.other∧b≠r:=λb hb=>⟨F.out.fs.fresh b hb,by have:=AC F.out.root;omega⟩
   have hS:w5.heap[r]?=some (.cells (AF ver sv mb B dead) 51 (0,0))∧w5.rangeAt wr.heap.size 0 (AH o.1)∧w5.heap[W.heap.size]?=some (.cells #[.int .i64 o.2.1,.slice pa o.2.2.length pc] 85 (0,0)):=by
    have hz:=aN.out;have dB:=c0.out;have f1:=aa wr.heap.size (QM _);have f2:=aa W.heap.size (by omega);exact⟨M.root,AQ hS.2.1 (N.block _ (by omega) f1.1 f1.2),(N.block _ (by omega) f2.1 f2.2).trans hS.2.2⟩
   have G:=QA M;clear hp5 M N aa aX;go_wp2;refine HK13.out _ _ ⟨λ_=>hS,?_⟩;clear HK13;obtain⟨ce,aj⟩:∃c,(Sg.append g E 1 (Sto.bytes o)).2=c:=⟨_,rfl⟩
   rw[aj];refine TK (i:=14) (v:=.int .i64 ce) rfl (Or.inl ⟨by rfl,λw hSw=>by go_simp⟩) hS ?_;simp only[Act.put,QD,QK,QI,QJ,QC,QH,QG];refine AL (by kernel_rfl) ?_ _;have I:=cx.out;rw[cU.out,Sto.compactGo]at I;by_cases T:ce=0
   ·have cA:(ce != 0)=false:=by rw[T];rfl
    rw[if_neg (by rw[aj,T];simp)]at I;have cj:=QA I;clear I aj T;go_wp2_with fail;go_roundg (l.length-(j+1))
    case measure=>rw[HK.out];omega
    case rel=>exact⟨j+1,_,V5,J,by simp,by omega,rfl,G.out,cj.out⟩
   ·have cA:(ce != 0)=true:=bne_iff_ne.2 T;rw[if_pos (by rw[aj];exact T)]at I;have db:Hid (Sto.compact f ⟨ver,segs,l.map (·.1),dead⟩=((Sg.append g E 1 (Sto.bytes o)).1,⟨ver,segs,l.map (·.1),dead⟩,ce)):=QA (by
     have:=Sto.compact_a (f:=f) (s:=⟨ver,segs,l.map (·.1),dead⟩) (by rw[L.out];exact HC.out) (by rw[L.out,af.out];show (Sto.compactGo E (l.map (·.1)) f2).2≠0;rw[← I,aj];exact T);rw[L.out,af.out]at this;rw[this];show ((Sto.compactGo E (l.map (·.1)) f2).1,_,(Sto.compactGo E (l.map (·.1)) f2).2)=_;rw[← I,aj])
    clear I aj T;go_wp2_with fail;refine bodyPost_ret (v:=.int .i64 ce) (by simp[results,Tryz.results50,go_sem]) rfl ?_;rw[db.out];exact⟨rfl,V5,J,sv,G.out.fs,G.out.fr,G.out.bel,G.out.root,HN.out.mv G.out.fr.mv⟩
  ·have ct:(l.length:Int)≤(j:Int):=by omega
   have I:=cx.out;rw[List.drop_eq_nil_of_le (by rw[QV];omega)]at I;have ar:Hid (Sto.compactGo E (l.map (·.1)) f2=(g,0)):=QA I.symm;clear I;obtain⟨A,aH⟩:∃x,wrap64 (ver+1)=x:=⟨_,rfl⟩
   have aE:=QA aH;clear aH;have y0:=rc0 F.out.root;have y1:=rc1 F.out.root;have y2:=rc2 F.out.root;have y3:=rc3 F.out.root;have y4:=rc4 F.out.root;go_wp2_with fail;rw[aE.out];have aD:Below wr.heap.size wr (wr.alloc (.cells #[.int .i64 E] 3)):=(Below.refl _ _).alloc (QM _) _;have a2:Below wr.heap.size wr ((wr.alloc (.cells #[.int .i64 E] 3)).alloc (.cells #[.int .i64 A,.slice (some ⟨wr.heap.size,0,none⟩) 1 1] 47)):=aD.alloc (by simp) _;have bs:((wr.alloc (.cells #[.int .i64 E] 3)).alloc (.cells #[.int .i64 A,.slice (some ⟨wr.heap.size,0,none⟩) 1 1] 47)).heap[wr.heap.size]?=some (.cells #[.int .i64 E] 3 (0,0)):=by
    rw[Lib.alloc_old _ _ _ (by simp)];exact AJ wr _
   have az:=AJ (wr.alloc (.cells #[.int .i64 E] 3)) (.cells #[.int .i64 A,.slice (some ⟨wr.heap.size,0,none⟩) 1 1] 47);rw[show (wr.alloc (.cells #[.int .i64 E] 3)).heap.size=wr.heap.size+1 by simp]at az;obtain⟨X,hX⟩:∃x,(wr.alloc (.cells #[.int .i64 E] 3)).alloc (.cells #[.int .i64 A,.slice (some ⟨wr.heap.size,0,none⟩) 1 1] 47)=x:=⟨_,rfl⟩
   rw[hX]at a2 bs az ⊢;have ai:=QA (F.out.below a2 ap);have aa:∀b,wr.heap.size≤b→R b=.other∧b≠r:=λb hb=>⟨F.out.fs.fresh b hb,by have:=AC F.out.root;omega⟩
   have S:=QA aa;have bZ:=QA bs;have bY:=QA az;have z0:=AA az 0 _ rfl;have z1:=AA az 1 _ rfl;have cZ:=a2.size;clear aD a2 bs az hX aa y0 y1 y2 y3 y4;have y0:=rc0 ai.out.root;have y1:=rc1 ai.out.root;have y2:=rc2 ai.out.root;have y3:=rc3 ai.out.root;have y4:=rc4 ai.out.root;refine Ad [5] (by kernel_rfl) (by kernel_rfl) ?_;simp only[Br,QF,QN,QE,QL,Nat.sub_zero,Nat.reduceSub,Nat.reduceAdd]
   repeat (go_big_quiet_step (fail))
   refine wpQuiet_nil ?_;rintro _ ⟨nq,rfl⟩;have bp:Below X.heap.size X (X.drewN nq):=Below.drewN (Below.refl _ X) nq;have a6:=QQ ap cZ;have ad:Hid (Cu base B r mb ver sv dead own K (k+2) w wk (X.drewN nq) g V3 R):=QA (ai.out.below bp a6);have aT:Hid ((X.drewN nq).heap[wr.heap.size]?=some (.cells #[.int .i64 E] 3 (0,0))):=bZ;have a3:Hid ((X.drewN nq).heap[wr.heap.size+1]?=some (.cells #[.int .i64 A,.slice (some ⟨wr.heap.size,0,none⟩) 1 1] 47 (0,0))):=bY;have cu:X.heap.size≤(X.drewN nq).heap.size:=bp.size;clear bp ai bZ bY z0 z1 y0 y1 y2 y3 y4;obtain⟨Y,hY⟩:∃q,X.drewN nq=q:=⟨_,rfl⟩
   rw[hY]at ad aT a3 cu ⊢;clear hY;have bm:=QQ a6 cu;go_wp2_with fail;refine (Ee base B g V3 R A _ [E] Y ad.out.fs (HE.out.below ad.out.bel) bm (k+2) ad.out.sound.1 (by omega) ad.out.sound.2 (Aw aT.out) (by simp)).mono ?_;rintro e w5 ⟨rfl,hp5⟩;obtain⟨V5,J,M,N⟩:=ad.out.step hp5 bm (Bs ad.out.sound.1 ad.out.sound.2 A [E]);have G:=QA M;have bE:=AC aT.out;have b5:=AC a3.out;have cf:w5.heap[wr.heap.size]?=some (.cells #[.int .i64 E] 3 (0,0)):=(N.block _ bE (S.out _ (QM _)).1 (S.out _ (QM _)).2).trans aT.out;have cg:w5.heap[wr.heap.size+1]?=some (.cells #[.int .i64 A,.slice (some ⟨wr.heap.size,0,none⟩) 1 1] 47 (0,0)):=(N.block _ b5 (S.out _ (Nat.le_succ _)).1 (S.out _ (Nat.le_succ _)).2).trans a3.out;have bB:Hid (J wr.heap.size=.other):=QA ((N.tags _ bE).trans (S.out _ (QM _)).1);have cG:=QA cf;have bU:=QA cg;have bo:Hid (wr.heap.size≠r∧wr.heap.size+1≠r):=QA ⟨(S.out _ (QM _)).2,(S.out _ (Nat.le_succ _)).2⟩;have dg:=N.size;clear hp5 M N cf cg aT a3 bE b5;obtain⟨c5,T⟩:∃c,(Mf.save g A [E]).2=c:=⟨_,rfl⟩
   rw[T];have bC:=QA T;clear T;go_wp2_with fail
   repeat (go_big_quiet_step (fail))
   refine wpQuiet_nil ?_;rintro _ ⟨n7,rfl⟩;have bO:Below w5.heap.size w5 (w5.drewN n7):=Below.drewN (Below.refl _ w5) n7;have cP:=QQ bm dg;have C:Hid (Cu base B r mb ver sv dead own K (k+2+12) w wk (w5.drewN n7) (Mf.save g A [E]).1 V5 J):=QA (G.out.below bO cP);have br:Hid ((w5.drewN n7).heap[wr.heap.size]?=some (.cells #[.int .i64 E] 3 (0,0))):=cG;have aU:Hid ((w5.drewN n7).heap[wr.heap.size+1]?=some (.cells #[.int .i64 A,.slice (some ⟨wr.heap.size,0,none⟩) 1 1] 47 (0,0))):=bU;have de:w5.heap.size≤(w5.drewN n7).heap.size:=bO.size;clear bO G cG bU;obtain⟨w7,b2⟩:∃q,w5.drewN n7=q:=⟨_,rfl⟩
   rw[b2]at C br aU de ⊢;clear b2;have cd:Sto.active ⟨ver,segs,l.map (·.1),dead⟩+1=E:=L.out;by_cases hc0:c5=0
   case neg =>
    have cH:(c5 != 0)=true:=bne_iff_ne.2 hc0;have cY:Hid (Sto.compact f ⟨ver,segs,l.map (·.1),dead⟩=((Mf.save g A [E]).1,⟨ver,segs,l.map (·.1),dead⟩,c5)):=QA (by
     have:=Sto.compact_m (f:=f) (s:=⟨ver,segs,l.map (·.1),dead⟩) (by rw[L.out];exact HC.out) (by rw[L.out,af.out];show (Sto.compactGo E (l.map (·.1)) f2).2=0;rw[ar.out]) (by
      rw[L.out,af.out];show (Mf.save (Sto.compactGo E (l.map (·.1)) f2).1 (wrap64 (ver+1)) [E]).2≠0;rw[ar.out,aE.out,bC.out];exact hc0)
     rw[L.out,af.out]at this;rw[this];show ((Mf.save (Sto.compactGo E (l.map (·.1)) f2).1 (wrap64 (ver+1)) [E]).1,_,(Mf.save (Sto.compactGo E (l.map (·.1)) f2).1 (wrap64 (ver+1)) [E]).2)=_;rw[ar.out,aE.out,bC.out])
    clear hc0 cd;go_wp2_with fail;refine bodyPost_ret (v:=.int .i64 c5) (by simp[results,Tryz.results50,go_sem]) rfl ?_;rw[cY.out];exact⟨rfl,V5,J,sv,C.out.fs,C.out.fr,C.out.bel,C.out.root,HN.out.mv C.out.fr.mv⟩
   have bG:Hid (Sto.compact f ⟨ver,segs,l.map (·.1),dead⟩=((Fs.clean (Mf.save g A [E]).1 A [E]).1,⟨A,[E],l.map (·.1),dead⟩,(Fs.clean (Mf.save g A [E]).1 A [E]).2.2)):=QA (by
    have:=Sto.compact_d (f:=f) (s:=⟨ver,segs,l.map (·.1),dead⟩) (by rw[L.out];exact HC.out) (by rw[L.out,af.out];show (Sto.compactGo E (l.map (·.1)) f2).2=0;rw[ar.out]) (by
     rw[L.out,af.out];show (Mf.save (Sto.compactGo E (l.map (·.1)) f2).1 (wrap64 (ver+1)) [E]).2=0;rw[ar.out,aE.out,bC.out];exact hc0)
    rw[L.out,af.out]at this;rw[this];show ((Fs.clean (Mf.save (Sto.compactGo E (l.map (·.1)) f2).1 (wrap64 (ver+1)) [E]).1 (wrap64 (ver+1)) [E]).1,(⟨wrap64 (ver+1),[E],l.map (·.1),dead⟩:Sto.St),(Fs.clean (Mf.save (Sto.compactGo E (l.map (·.1)) f2).1 (wrap64 (ver+1)) [E]).1 (wrap64 (ver+1)) [E]).2.2)=_;rw[ar.out,aE.out])
   have cH:(c5 != 0)=false:=by rw[hc0];rfl
   clear hc0 cd;have z0:=AA aU.out 0 _ rfl;have z1:=AA aU.out 1 _ rfl;have f0:=AE C.out.root 0;have f1:=AE C.out.root 1;have y0:=rc0 C.out.root;have y1:=rc1 C.out.root;have y2:=rc2 C.out.root;have y3:=rc3 C.out.root;have y4:=rc4 C.out.root;obtain⟨f5,N⟩:∃q,(Mf.save g A [E]).1=q:=⟨_,rfl⟩
   rw[N]at C bG;clear N;go_wp2_with fail;have aY:=bo.out;have ab:((w7.setCell ⟨r,0,none⟩ (.int .i64 A)).setCell ⟨r,1,none⟩ (.slice (some ⟨wr.heap.size,0,none⟩) 1 1)).heap[r]?=some (.cells (AF A (.slice (some ⟨wr.heap.size,0,none⟩) 1 1) mb B dead) 51 (0,0)):=heap_set (heap_set C.out.root _) _;have bg:((w7.setCell ⟨r,0,none⟩ (.int .i64 A)).setCell ⟨r,1,none⟩ (.slice (some ⟨wr.heap.size,0,none⟩) 1 1)).heap[wr.heap.size]?=some (.cells #[.int .i64 E] 3 (0,0)):=((Below.heap_setCell _ _ _ _ aY.1).trans (Below.heap_setCell _ _ _ _ aY.1)).trans br.out;have bD:((w7.setCell ⟨r,0,none⟩ (.int .i64 A)).setCell ⟨r,1,none⟩ (.slice (some ⟨wr.heap.size,0,none⟩) 1 1)).heap[wr.heap.size+1]?=some (.cells #[.int .i64 A,.slice (some ⟨wr.heap.size,0,none⟩) 1 1] 47 (0,0)):=((Below.heap_setCell _ _ _ _ aY.2).trans (Below.heap_setCell _ _ _ _ aY.2)).trans aU.out;have cF:Kept J (·=.other) w7 ((w7.setCell ⟨r,0,none⟩ (.int .i64 A)).setCell ⟨r,1,none⟩ (.slice (some ⟨wr.heap.size,0,none⟩) 1 1)):=((Kept.refl _ _ _).setCell ⟨r,0,none⟩ C.out.mine _).setCell ⟨r,1,none⟩ C.out.mine _;have aP:SFr r own J w ((w7.setCell ⟨r,0,none⟩ (.int .i64 A)).setCell ⟨r,1,none⟩ (.slice (some ⟨wr.heap.size,0,none⟩) 1 1)):=(C.out.fr.trans (SFr.set _ 0 _)).trans (SFr.set _ 1 _);have bP:Below base w ((w7.setCell ⟨r,0,none⟩ (.int .i64 A)).setCell ⟨r,1,none⟩ (.slice (some ⟨wr.heap.size,0,none⟩) 1 1)):=(C.out.bel.setCell (p:=⟨r,0,none⟩) hrb _).setCell (p:=⟨r,1,none⟩) hrb _;have bF:=C.out.fs.kept cF;obtain⟨Z,hZ⟩:∃q,(w7.setCell ⟨r,0,none⟩ (.int .i64 A)).setCell ⟨r,1,none⟩ (.slice (some ⟨wr.heap.size,0,none⟩) 1 1)=q:=⟨_,rfl⟩
   rw[hZ]at ab bg bD aP bP bF ⊢;have ak:Hid (Cu base B r mb A (.slice (some ⟨wr.heap.size,0,none⟩) 1 1) dead own own (k+2+12) w w Z f5 V5 J):=QA ⟨bF,aP,aP,bP,ab,C.out.mine,C.out.sound⟩;have cn:=QA bg;have bt:=QA bD;have cW:=aP.size;clear ab bg bD cF aP bP bF hZ aY z0 z1 f0 f1 y0 y1 y2 y3 y4 C br aU;have z0:=AA bt.out 0 _ rfl;have z1:=AA bt.out 1 _ rfl;have y0:=rc0 ak.out.root;have y1:=rc1 ak.out.root;have y2:=rc2 ak.out.root;have y3:=rc3 ak.out.root;have y4:=rc4 ak.out.root;have a7:=QQ hbase cW;refine Ad [5] (by kernel_rfl) (by kernel_rfl) ?_;simp only[Br,QF,QN,QE,QL,Nat.sub_zero,Nat.reduceSub,Nat.reduceAdd]
   repeat (go_big_quiet_step (fail))
   refine wpQuiet_nil ?_;rintro _ ⟨n8,rfl⟩;have bn:Below Z.heap.size Z (Z.drewN n8):=Below.drewN (Below.refl _ Z) n8;have ae:Hid (Cu base B r mb A (.slice (some ⟨wr.heap.size,0,none⟩) 1 1) dead own own (k+2+12) w w (Z.drewN n8) f5 V5 J):=QA (ak.out.below bn a7);have aQ:Hid ((Z.drewN n8).heap[wr.heap.size]?=some (.cells #[.int .i64 E] 3 (0,0))):=cn;have cr:Z.heap.size≤(Z.drewN n8).heap.size:=bn.size;clear bn ak cn bt z0 z1 y0 y1 y2 y3 y4;obtain⟨w8,bT⟩:∃q,Z.drewN n8=q:=⟨_,rfl⟩
   rw[bT]at ae aQ cr ⊢;clear bT;have aW:=QQ a7 cr;go_wp2_with fail;refine (FS base B f5 V5 J A _ [E] w8 ae.out.fs (HE.out.below ae.out.bel) aW (k+2+12) ae.out.sound.1 (by omega) ae.out.sound.2 (Aw aQ.out) (by simp) (λp n c e=>by
    simp only[Value.slice.injEq,Option.some.injEq]at e;rw[← e.1];exact bB.out)).mono ?_
   rintro e w9 ⟨rfl,hp9⟩;obtain⟨V9,a8,aM,a4⟩:=ae.out.step hp9 aW (Fs.clean_sound ae.out.sound.1 ae.out.sound.2 A [E]);have cC:w9.heap[wr.heap.size]?=some (.cells #[.int .i64 E] 3 (0,0)):=(a4.block _ (AC aQ.out) bB.out bo.out.1).trans aQ.out;have cQ:Hid (a8 wr.heap.size=.other):=QA ((a4.tags _ (AC aQ.out)).trans bB.out);have bu:=QA aM;have cT:=QA cC;have c6:=a4.size;clear hp9 aM a4 cC;obtain⟨c9,b7⟩:∃c,(Fs.clean f5 A [E]).2.2=c:=⟨_,rfl⟩
   rw[b7]at bG ⊢;clear b7;go_wp2_with fail
   repeat (go_big_quiet_step (fail))
   refine wpQuiet_nil ?_;rintro _ ⟨n10,rfl⟩;have cm:Below w9.heap.size w9 (w9.drewN n10):=Below.drewN (Below.refl _ w9) n10;have al:=QA (bu.out.below cm (QQ aW c6));go_wp2_with fail;refine bodyPost_ret (v:=.int .i64 c9) (by simp[results,Tryz.results50,go_sem]) rfl ?_;rw[bG.out];exact⟨rfl,V9,a8,_,al.out.fs,al.out.fr,al.out.bel,al.out.root,Aw (X:=w9.drewN n10) cT.out,λp n c e _=>by
    simp only[Value.slice.injEq,Option.some.injEq]at e;rw[← e.1];exact⟨cQ.out,bo.out.1⟩⟩
end Go.Proofs.YtjldahcckmmenaaGreatDoor
