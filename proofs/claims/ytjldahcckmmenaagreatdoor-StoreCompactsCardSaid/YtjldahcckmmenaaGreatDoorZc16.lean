/-
  The store: parse, walked (at what was written).
-/
import Derived.Test.YtjldahcckmmenaaGreatDoorZc15
import Derived.Test.YtjldahcckmmenaaGreatDoorZc11
import Derived.Test.YtjldahcckmmenaaGreatDoorZc7
import Derived.Laws.BitsAllLaws
open Array renaming getInternal_eq_getElem → QD
open Go.Lib renaming hid → QA
open List renaming mem_singleton → QB, setIfInBounds_toArray → QC, drop_succ_cons → QE, take_succ_cons → QF, set_cons_succ → QG, set_cons_zero → QH, getElem_cons_zero → QI, getElem_cons_succ → QJ, getElem_toArray → QK, drop_zero → QL, take_zero → QN, mem_of_getElem? → QZ, append_assoc → ZE, getElem?_eq_getElem → ZG, mem_append → ZI, getElem?_append_left → ZL, map_append → ZQ
open Nat renaming le_trans → QQ, reduceAdd → QW
namespace Go.Proofs.YtjldahcckmmenaaGreatDoor
set_option maxRecDepth 100000
set_option maxHeartbeats 4000000
set_option linter.unusedSimpArgs false
set_option linter.unusedVariables false
open Go Go.RowKit
open Go.Maps Go.WideMaps
theorem Sto.chk_kinds {ops:List Sto.Op} (h:Sto.chk ops=0):∀o∈ops,0≤o.2.1∧o.2.1≤9:=λo ho=>by
 unfold Sto.chk at h;split at h
 ·cases h
 split at h
 ·cases h
 rename_i hb;have A:Sto.badK o=false:=by
  cases h2:Sto.badK o
  ·rfl
  ·exact absurd (List.any_eq_true.2 ⟨o,ho,h2⟩) hb
 unfold Sto.badK at A;simp only[Bool.or_eq_false_iff,decide_eq_false_iff_not]at A;omega
theorem Sto.mass_mem {ops:List Sto.Op} {o:Sto.Op} (h:o∈ops):35+o.2.2.length≤Sto.mass ops:=by
 unfold Sto.mass;exact Sto.le_sum (List.mem_map.2 ⟨o,h,rfl⟩)
def AR (l:Sto.ME):List Value:=l.flatMap λp=>AG p.1 p.2
structure Hi (w:World) (F:Nat→Prop) (base:Nat) (v:Value) (l:Sto.ME):Prop where
 row:w.ownsRow base 43 34 v l.length (AR l)
 key:∀p∈l,p.1.1.length=32
 val:∀p∈l,BA w F p.2 p.1.2.2
theorem BA.low {w:World} {F:Nat→Prop} {v:Value} {l:List UInt8} (h:BA w F v l):BA w (λb=>F b∧b<w.heap.size) v l :=
 ⟨h.1,λp n c e hl=>⟨h.2 p n c e hl,by
  obtain⟨a,cap,D,_,_,A⟩:=h.1;obtain⟨b,B,o,C,_⟩:=A 0 _ (ZG hl);rw[D,o]at e;simp only[Value.slice.injEq,Option.some.injEq]at e;rw[← e.1];exact C⟩⟩
theorem I7 (n:Nat) (h:n≤65535):bits .or .i64 ((n:Int) % 256) ((n:Int) / 256*256)=(n:Int):=by
 have o:((n:Int) % 256)=((n % 256:Nat):Int):=by omega
 have A:((n:Int) / 256*256)=((2 ^ 8*(n / 256):Nat):Int):=by omega
 rw[o,A];show IntKind.i64.wrap ((BitVec.ofInt 64 ((n % 256:Nat):Int) ||| BitVec.ofInt 64 ((2 ^ 8*(n / 256):Nat):Int)).toNat:Int)=_;rw[BitVec.toNat_or,ofInt_u64 _ (by omega),ofInt_u64 _ (by omega),Nat.or_comm,← Nat.two_pow_add_eq_or_of_lt (by omega),IntKind.wrap_i64];omega
theorem Aj.range {w:World} {g:Nat} {o:Sto.Op} {v:Value} (h:Aj w g o v):w.rangeAt g 0 (AG o v):=λj u hj=>by rw[Nat.zero_add];exact h.cell hj
theorem Aj.set33 {w:World} {g:Nat} {k:List UInt8} {n:Int} {x:List UInt8} {u:Value} (h:Aj w g (k,n,x) u) (hk:k.length=32) (y:List UInt8) (v:Value):Aj (w.setCell ⟨g,33,none⟩ v) g (k,n,y) v:=by
 unfold Aj;have o:=heap_set (k:=33) h v;rw[o]
 congr 2
 unfold AG;simp[List.set_append,AP,hk]
theorem GI:(Tryz.prog.info? 43).map (λi=>(i.zero,i.size,i.bytes))=some (some (.agg (Array.replicate 32 (.int .u8 0)++#[.int .i64 0,.slice none 0 0])),34,64):=by kernel_rfl
theorem Bg {ops:Array Oper} {rest:List Oper} {op:Oper} {a:Act} {w:World} {Q:Exit→Act→World→Prop} (hg:op.guard=none) (x:Operand) (ho:op.op=.buildSlice 22 1 #[(0,x)]) (o:Sto.Op) (v:Value) (hk:o.1.length=32)
  (hx:a.eval x=.agg (AG o v).toArray) (h:wpList Tryz.prog ops Q rest (a.put op.dst (.slice (some ⟨w.heap.size,0,none⟩) 1 1)) (w.alloc (.cells (AG o v).toArray 43))):wpList Tryz.prog ops Q (op::rest) a w:=by
 obtain⟨D,F,C,B,E⟩:=info_parts GI;refine wpList_plain hg λ_ hK=>?_
 have A:=B5 w 22 43 (AG o v) D _ Tryz.underlying22 F C (by rw[B,Ac hk]) (by rw[Ac hk];omega) (by rw[Ac hk];omega);unfold Oper.wp execOp;simp only[ho,List.map_toArray,List.map_cons,List.map_nil,hx,Sem.run_bind,A,Result.andThen_ok];exact hK _ _ h
theorem Bj:∀(l:Sto.ME),(∀p∈l,p.1.1.length=32)→∀(i:Nat) (p:Sto.Op×Value) (j:Nat) (u:Value),l[i]?=some p→(AG p.1 p.2)[j]?=some u→(AR l)[i*34+j]?=some u
 | [],_,i,p,j,u,h,_=>by simp at h
 | q::l,hk,0,p,j,u,h,hj=>by
  simp at h;subst h;show (AG q.1 q.2++AR l)[0*34+j]?=some u;rw[Nat.zero_mul,Nat.zero_add,ZL (List.getElem?_eq_some_iff.1 hj).1];exact hj
 | q::l,hk,i+1,p,j,u,h,hj=>by
  show (AG q.1 q.2++AR l)[(i+1)*34+j]?=some u;have o:=Ac (hk q List.mem_cons_self) q.2;rw[List.getElem?_append_right (by omega),o,show (i+1)*34+j-34=i*34+j by omega];exact Bj l (λx hx=>hk x (List.mem_cons_of_mem _ hx)) i p j u (by simpa using h) hj
theorem Hi.opsF {w:World} {F F':Nat→Prop} {base:Nat} {v:Value} {l:Sto.ME} (h:Hi w F base v l) (hF:∀b,base≤b→F' b) (hF':∀b,F b→F' b):BQ w F' v l:=by
 rcases h.row.2 with⟨rfl,h5⟩|⟨g,cap,cur,hv,hg,hb,hc,hm,hs,ht⟩
 ·have:l=[]:=List.eq_nil_of_length_eq_zero h5;subst this;exact⟨none,0,rfl,Nat.le_refl _,λi p hi=>by simp at hi⟩
 ·subst hv;refine⟨some ⟨g,0,none⟩,cap,rfl,hc,λi p hi=>⟨h.key p (QZ hi),⟨(h.val p (QZ hi)).1,λa n c e hl=>hF' _ ((h.val p (QZ hi)).2 a n c e hl)⟩,g,0,rfl,AC hb,hF g hg,λj u hj=>?_⟩⟩;have A:=Bj l h.key i p j u hi hj;have o:=World.ownsRow.cells h.row (g:=g) rfl _ _ A;rw[Addr.add_mid,Nat.zero_add]at o;rw[Nat.zero_add];exact o
theorem Hi.below {w w':World} {F:Nat→Prop} {base:Nat} {v:Value} {l:Sto.ME} (h:Hi w F base v l) (hb:Below w.heap.size w w'):Hi w' F base v l :=
 ⟨AN h.row (λg hg=>hb.block g (h.row.lt g hg).2),h.key,λp hp=>(h.val p hp).mv (MV.below hb)⟩
theorem IM {ops:List Sto.Op} {j:Nat} {o:Sto.Op} (h:ops[j]?=some o):Sto.flat (ops.drop j)=Sto.bytes o++Sto.flat (ops.drop (j+1)):=by
 obtain⟨A,rfl⟩:=List.getElem?_eq_some_iff.1 h;rw[List.drop_eq_getElem_cons A];rfl
theorem Ji {zs:Array Value} {k:List UInt8} (hk:k.length=32) (hz:zs.size=34) (n:Int) (u:Value) (hu:zs[33]?=some u) (places:Nat→Option (Nat×Nat)) (h0:places 0=some (0,32)) (h1:places 1=some (32,1)) :
  Instr.fill places zs [(0,Ag k),(1,.int .i64 n)]=some (AH k++[.int .i64 n,u]).toArray:=by
 have B:(Ag k).cells.size=32:=by show (AH k).toArray.size=32;rw[List.size_toArray,AP,hk]
 unfold Instr.fill;rw[h0];simp only;rw[if_neg (by simp[B,hz])];obtain⟨D,E⟩:=Great.foldl_set 0 (AH k) 0 zs;have G:(Array.foldl (λA (x:Value×Nat)=>A.setIfInBounds (0+x.2) x.1) zs ((Ag k).cells.zipIdx))=((AH k).zipIdx 0).foldl (λA (x:Value×Nat)=>A.setIfInBounds (0+x.2) x.1) zs:=by
  show Array.foldl _ zs ((AH k).toArray.zipIdx)=_;rw[← Array.foldl_toList,Array.toList_zipIdx]
 rw[G];obtain⟨A,C⟩:∃A,((AH k).zipIdx 0).foldl (λA (x:Value×Nat)=>A.setIfInBounds (0+x.2) x.1) zs=A:=⟨_,rfl⟩
 rw[C]at D E ⊢;unfold Instr.fill;rw[h1];simp only;rw[if_neg (by simp[D,hz,Value.cells])];unfold Instr.fill
 congr 1
 show A.setIfInBounds (32+0) (.int .i64 n)=_;apply Array.ext_getElem?;intro t;have F:(AH k++[.int .i64 n,u]).toArray[t]?=(AH k++[.int .i64 n,u])[t]?:=by simp
 rw[Array.getElem?_setIfInBounds,F];have o:=AP k;rw[hk]at o;by_cases ht:32+0=t
 ·rw[if_pos ht,if_pos (by rw[D,hz];omega)];subst ht;rw[List.getElem?_append_right (by omega),o];rfl
 ·rw[if_neg ht,E];by_cases h32:t<32
  ·rw[if_pos (by omega),ZL (by omega)]
   congr 1
  ·rw[if_neg (by omega)];by_cases h33:t=33
   ·subst h33;rw[hu,List.getElem?_append_right (by omega),o];rfl
   ·rw[Array.getElem?_eq_none (by omega),List.getElem?_eq_none (by simp[o];omega)]
theorem Ho (w:World):(zeroValue 43).run Tryz.prog w=.ok (.agg (Array.replicate 32 (.int .u8 0)++#[.int .i64 0,.slice none 0 0])) w:=by kernel_rfl
theorem Ff (w:World) (k:List UInt8) (hk:k.length=32) (n:Int):(Instr.build 43 #[(0,Ag k),(1,.int .i64 n)]).run Tryz.prog w=.ok (.agg (AG (k,n,[]) (.slice none 0 0)).toArray) w:=by
 unfold Instr.build;simp only[Sem.run_bind,Ho,Result.andThen_ok,run_underlying Tryz.underlying43];simp;rw[Ji hk (by simp[Value.cells]) n (.slice none 0 0) (by simp[Value.cells]) _ rfl rfl];rfl
theorem Jo {ops:Array Oper} {S:World→Prop} {op:Oper} {a:Act} (hw:Region.wanted op (yielded ops a.tmps)=true) (x y:Operand) (ho:op.op=.build 43 #[(0,x),(1,y)]) (k:List UInt8) (hk:k.length=32) (n:Int)
  (hx:a.eval x=Ag k) (hy:a.eval y=.int .i64 n):YieldsIf Tryz.prog ops S op (.agg (AG (k,n,[]) (.slice none 0 0)).toArray) a :=
 .inl ⟨hw,λw _=>by
  unfold execOp;simp only[ho,List.map_toArray,List.map_cons,List.map_nil,hx,hy,Sem.run_bind,Ff w k hk n,Result.andThen_ok];rfl⟩
theorem G8 (v:Value) (ops:List Sto.Op) (w:World) (F:Nat→Prop) (hv0:BA w F v (Sto.flat ops)) (hg:Sto.GoodB ops) :
  Calls Tryz.prog 48 #[v] w λe w'=>∃v' l,e=.returned (.tuple #[v',.bool true])∧Hi w' (λb=>F b∧b<w.heap.size) w.heap.size v' l∧Sto.opsOf l=ops∧Below w.heap.size w w':=by
 have hv:=hv0.low;clear hv0;obtain⟨T,aV⟩:∃T,(λb=>F b∧b<w.heap.size)=T:=⟨_,rfl⟩
 rw[aV]at hv ⊢;have HF:Hid (∀b,T b→b<w.heap.size):=QA λb hb=>by rw[← aV]at hb;exact hb.2
 clear aV;have hM:=hg.mass_le;have bi:=Sto.flat_len ops hg.key;obtain⟨va,vc,rfl,b3,bX⟩:=hv.1.form2;have HG:=QA hg;have HV:=QA hv;have bW:=QA bi;clear hg hv bi;go_enter Tryz.func48,Tryz.ntmps48;go_wp2_with fail
 go_loopg [0,4] ops.length (λk s0 s4 wr=>∃(j:Nat) (l:Sto.ME),j≤ops.length∧k=ops.length-j∧BA wr T s0 (Sto.flat (ops.drop j))∧Hi wr T w.heap.size s4 l∧Sto.opsOf l=ops.take j∧Below w.heap.size w wr)
 case atStart=>exact⟨0,[],Nat.zero_le _,rfl,HV.out,⟨World.ownsRow_nil _ _ _ _,λp h=>(by cases h),λp h=>(by cases h)⟩,rfl,Below.refl _ _⟩
 case round =>
  obtain⟨j,l,hj,hk,hb,hl,bg,hB⟩:=hrel;have HK:=QA hk;have HL:=QA hl;have ab:=QA bg;have HB:=QA hB;clear hk hl bg hB;obtain⟨ba,J,rfl,bt,bV⟩:=hb.1.form2;obtain⟨la,lc,rfl⟩:=A7 HL.out.row;by_cases hjn:j<ops.length
  ·obtain⟨o,ho⟩:∃o,ops[j]?=some o:=⟨_,ZG hjn⟩
   have aK:o.1.length=32:=HG.out.key o (QZ ho);have HD:=QA (IM ho);have a8:=Sto.bytes_len aK;have hn:(Sto.flat (ops.drop j)).length=35+o.2.2.length+(Sto.flat (ops.drop (j+1))).length:=by rw[HD.out,List.length_append,a8]
   obtain⟨m,hm⟩:∃m,(Sto.flat (ops.drop j)).length=m:=⟨_,rfl⟩
   rw[hm]at hn bt ⊢;have bY:(0:Int)<(m:Int):=by omega
   have bP:(35:Int)≤(m:Int):=by omega
   have aB:∀(i:Nat) (x:UInt8),(Sto.bytes o)[i]?=some x→(Sto.flat (ops.drop j))[i]?=some x:=λi x hx=>by
    rw[HD.out,ZL (List.getElem?_eq_some_iff.1 hx).1];exact hx
   obtain⟨g,A,rfl,aG,S⟩:∃g A,ba=some ⟨g,A,none⟩∧g<wr.heap.size∧∀(i:Nat) (x:UInt8),(Sto.flat (ops.drop j))[i]?=some x→wr.cell? ⟨g,A+i,none⟩=some (.int .u8 x.toNat):=by
    obtain⟨b,A,e1,e2,_⟩:=hb.1.at (i:=0) (ZG (by omega));subst e1;refine⟨b,A,rfl,e2,λi x hx=>?_⟩;obtain⟨b',bD,e3,e4,e5⟩:=hb.1.at hx;cases e3;exact e5
   have bb:∀i,i<32→(Sto.bytes o)[i]?=o.1[i]?:=λi hi=>by unfold Sto.bytes;rw[ZE,ZL (by omega)]
   have aH:(Sto.bytes o)[32]?=some (UInt8.ofNat o.2.1.toNat)∧(Sto.bytes o)[33]?=some (UInt8.ofNat (o.2.2.length % 256))∧(Sto.bytes o)[34]?=some (UInt8.ofNat (o.2.2.length / 256 % 256)):=by
    unfold Sto.bytes;rw[ZE];refine⟨?_,?_,?_⟩<;>(rw[List.getElem?_append_right (by omega),aK];rfl)
   have a2:wr.rangeAt g A (AH o.1):=λi u hi=>by
    unfold AH at hi;rw[List.getElem?_map]at hi;cases hx:o.1[i]? with
    | none=>rw[hx]at hi;cases hi
    | some x =>
     rw[hx]at hi;have hi:Value.int .u8 (x.toNat:Int)=u:=by simpa using hi
     rw[← hi];have b1:=(List.getElem?_eq_some_iff.1 hx).1;exact S i x (aB i x (by rw[bb i (by omega)];exact hx))
   have bq:0≤o.2.1∧o.2.1≤9:=by
    have:=HG.out.chk;have h1:=Sto.chk_kinds this o (QZ ho);exact h1
   have a5:wr.cell? ⟨g,A+32,none⟩=some (.int .u8 o.2.1):=by
    rw[S 32 _ (aB _ _ aH.1),UInt8.toNat_ofNat_of_lt' (by show _<256;omega),show ((o.2.1.toNat:Nat):Int)=o.2.1 by omega]
   have bl:o.2.2.length≤8192:=by
    have:=Sto.mass_mem (QZ ho);omega
   have a3:wr.cell? ⟨g,A+33,none⟩=some (.int .u8 ((o.2.2.length:Int) % 256)):=by
    rw[S 33 _ (aB _ _ aH.2.1),UInt8.toNat_ofNat_of_lt' (by show _<256;omega)];rfl
   have bf:wr.cell? ⟨g,A+34,none⟩=some (.int .u8 ((o.2.2.length:Int) / 256)):=by
    rw[S 34 _ (aB _ _ aH.2.2),UInt8.toNat_ofNat_of_lt' (by show _<256;omega),show ((o.2.2.length / 256 % 256:Nat):Int)=(o.2.2.length:Int) / 256 by omega]
   have a0:∀w,(Instr.arrayAt 40 (.slice (some ⟨g,A,none⟩) 32 J)).run Tryz.prog w=.ok (.pointer (some ⟨g,A,none⟩)) w:=λw=>by
    unfold Instr.arrayAt;simp only[Sem.run_bind,run_underlying Tryz.underlying40,Result.andThen_ok];rfl
   have bF:(32:Int)≤(J:Int):=by omega
   have bG:(32:Int)<(m:Int):=by omega
   have bH:(33:Int)<(m:Int):=by omega
   have bE:(34:Int)<(m:Int):=by omega
   have b0:IntKind.i64.wrap o.2.1=o.2.1:=by rw[IntKind.wrap_i64];omega
   have HN:=QA hn;clear hn a8;have C:=QA aK;have Z:=QA hb;clear hb aH bb aB S aK;go_wp2_with fail;refine AK (λw'=>Below wr.heap.size wr w') 11 (by kernel_rfl) ?_;have E:Below wr.heap.size wr { wr with drawn:=wr.drawn+1 }:=Below.drewN (Below.refl _ wr) 1;obtain⟨wD,hD⟩:∃x:World,{ wr with drawn:=wr.drawn+1 }=x:=⟨_,rfl⟩
   rw[hD]at E ⊢;clear hD;refine TK (i:=0) (v:=.slice (some ⟨g,A,none⟩) m J) rfl (Or.inl ⟨by rfl,λw hSw=>by go_simp⟩) E ?_;simp only[Act.put,QD,QK,QI,QJ,QC,QH,QG];refine TK (i:=1) (v:=.slice (some ⟨g,A,none⟩) 32 J) rfl (Or.inl ⟨by rfl,λw hSw=>by go_simp⟩) E ?_;simp only[Act.put,QD,QK,QI,QJ,QC,QH,QG];refine TK (i:=2) (v:=.pointer (some ⟨g,A,none⟩)) rfl (Or.inl ⟨by rfl,λw hSw=>by go_simp⟩) E ?_;simp only[Act.put,QD,QK,QI,QJ,QC,QH,QG];refine TK (i:=3) (v:=Ag o.1) rfl (Ar rfl _ rfl g A rfl o.1 C.out (λw hw=>AQ a2 (hw.block g aG))) E ?_;simp only[Act.put,QD,QK,QI,QJ,QC,QH,QG];refine TK (i:=4) (v:=.slice (some ⟨g,A,none⟩) m J) rfl (Or.inl ⟨by rfl,λw hSw=>by go_simp⟩) E ?_;simp only[Act.put,QD,QK,QI,QJ,QC,QH,QG];refine TK (i:=5) (v:=.pointer (some ⟨g,A+32,none⟩)) rfl (Or.inl ⟨by rfl,λw hSw=>by go_simp⟩) E ?_;simp only[Act.put,QD,QK,QI,QJ,QC,QH,QG];refine TK (i:=6) (v:=.int .u8 o.2.1) rfl (Or.inl ⟨by rfl,λw hSw=>by have bT:=(hSw.cell (p:=⟨g,A+32,none⟩) aG).trans a5;go_simp⟩) E ?_;simp only[Act.put,QD,QK,QI,QJ,QC,QH,QG];refine TK (i:=7) (v:=.int .i64 o.2.1) rfl (Or.inl ⟨by rfl,λw hSw=>by go_simp⟩) E ?_;simp only[Act.put,QD,QK,QI,QJ,QC,QH,QG];refine TK (i:=8) (v:=.agg (AG (o.1,o.2.1,[]) (.slice none 0 0)).toArray) rfl (Jo rfl _ _ rfl o.1 C.out o.2.1 rfl rfl) E ?_;simp only[Act.put,QD,QK,QI,QJ,QC,QH,QG];refine TO (i:=9) ?_;refine AD (by decide) (λK9 HK9=>?_);simp only[QE,QL,QF,QN];go_wp2_with fail;refine HK9.out _ _ ⟨λ_=>E.alloc E.size _,?_⟩;clear HK9;refine TO (i:=10) ?_;refine AD (by decide) (λK10 HK10=>?_);simp only[QE,QL,QF,QN];go_wp2_with (first|(guard_target=wpList _ _ _ ({ dst:=_,op:=.store 43 _ _,type:=_,pos:=_,after:=_,guard:=none }::_) _ _;refine AV rfl _ _ rfl _ rfl (o.1,o.2.1,[]) (.slice none 0 0) C.out rfl rfl rfl ?_)|fail);have ap:Below wr.heap.size wr (wD.alloc (.cells (AG (o.1,o.2.1,[]) (.slice none 0 0)).toArray 43)):=E.alloc E.size _;have aM:=Aj.new wD (o.1,o.2.1,[]) (.slice none 0 0);refine HK10.out _ _ ⟨λ_=>ap,?_⟩;clear HK10;refine AL (by kernel_rfl) ?_ _;have V:wr.heap.size≤wD.heap.size:=E.size;obtain⟨X,hX⟩:∃x,wD.heap.size=x:=⟨_,rfl⟩
   obtain⟨wE,hE⟩:∃x,wD.alloc (.cells (AG (o.1,o.2.1,[]) (.slice none 0 0)).toArray 43)=x:=⟨_,rfl⟩
   rw[hX]at aM V ⊢;rw[hE]at aM ap ⊢;clear hE hX E;have aq:=QA ap;have ar:=QA aM;have aI:wE.cell? ⟨g,A+33,none⟩=some (.int .u8 ((o.2.2.length:Int) % 256)):=(ap.cell (p:=⟨g,A+33,none⟩) aG).trans a3;have aL:wE.cell? ⟨g,A+34,none⟩=some (.int .u8 ((o.2.2.length:Int) / 256)):=(ap.cell (p:=⟨g,A+34,none⟩) aG).trans bf;clear a5 a3 bf ap aM a0 a2;simp only[Act.put,QD,QK,QI,QJ,QC,QH,QG];have bp:=I7 o.2.2.length (by omega);obtain⟨B,aS⟩:∃B,o.2.2.length=B:=⟨_,rfl⟩
   rw[aS]at bp bl HN aI aL;have W:=QA aS;have Y:=QA hm;clear aS hm;have bJ:B≤m-35:=by have:=HN.out;omega
   have br:l.length≤1000:=by
    have h1:=congrArg List.length ab.out;rw[Sto.opsOf_len,List.length_take]at h1;have:=Sto.mass_len ops;omega
   by_cases hbc35:J=35
   ·have aT:m=35:=by omega
    have bs:B=0:=by omega
    subst hbc35 aT bs;have bN:bits .or .i64 0 0=0:=by kernel_rfl
    go_wp2_with fail;refine Ad [] (by kernel_rfl) (by kernel_rfl) ?_;simp only[Br,QF,QN,QE,QL,Nat.sub_zero,Nat.reduceSub,QW]
    repeat (go_big_quiet_step (fail))
    refine wpQuiet_nil ?_;rintro _ ⟨nq,rfl⟩;have G:Aj (wE.drewN nq) X (o.1,o.2.1,[]) (.slice none 0 0):=ar.out;have M:Below wr.heap.size wr (wE.drewN nq):=Below.drewN aq.out nq;clear aI aL;obtain⟨U,ak⟩:∃x,wE.drewN nq=x:=⟨_,rfl⟩
    rw[ak]at G M ⊢;clear ak ar aq;have K:=QA G;have ai:=QA M;clear G M;go_wp2_with fail;refine AK (λ_=>True) 9 (by kernel_rfl) ?_;have E:True:=trivial;have D:Aj { U with drawn:=U.drawn+1 } X (o.1,o.2.1,[]) (.slice none 0 0):=K.out;have R:Below wr.heap.size wr { U with drawn:=U.drawn+1 }:=Below.drewN ai.out 1;obtain⟨wG,aj⟩:∃x:World,{ U with drawn:=U.drawn+1 }=x:=⟨_,rfl⟩
    rw[aj]at D R ⊢;clear aj K ai;have fX:=AE D 33;have yX:=D.cell (Ao C.out _);have H:=QA (D.set33 C.out o.2.2 (.slice (some ⟨g,A,none⟩) 0 0));have O:Hid (Below wr.heap.size wr (wG.setCell ⟨X,33,none⟩ (.slice (some ⟨g,A,none⟩) 0 0))):=QA (R.setCell (p:=⟨X,33,none⟩) V _);clear D R;refine TK (i:=0) (v:=.slice (some ⟨g,A,none⟩) 0 0) rfl (Or.inl ⟨by rfl,λw hSw=>by go_simp⟩) E ?_;simp only[Act.put,QD,QK,QI,QJ,QC,QH,QG];refine TK (i:=1) (v:=.int .i64 0) rfl (Or.inl ⟨by rfl,λw hSw=>by go_simp⟩) E ?_;simp only[Act.put,QD,QK,QI,QJ,QC,QH,QG];refine TK (i:=2) (v:=.slice (some ⟨g,A,none⟩) 0 0) rfl (Or.inl ⟨by rfl,λw hSw=>by go_simp⟩) E ?_;simp only[Act.put,QD,QK,QI,QJ,QC,QH,QG];refine TK (i:=3) (v:=.slice (some ⟨g,A,none⟩) 0 0) rfl (Or.inl ⟨by rfl,λw hSw=>by go_simp⟩) E ?_;simp only[Act.put,QD,QK,QI,QJ,QC,QH,QG];refine TK (i:=4) (v:=.int .i64 0) rfl (Or.inl ⟨by rfl,λw hSw=>by go_simp⟩) E ?_;simp only[Act.put,QD,QK,QI,QJ,QC,QH,QG];refine TK (i:=5) (v:=.slice (some ⟨g,A,none⟩) 0 0) rfl (Or.inl ⟨by rfl,λw hSw=>by go_simp⟩) E ?_;simp only[Act.put,QD,QK,QI,QJ,QC,QH,QG];refine TK (i:=6) (v:=.pointer (some ⟨X,33,none⟩)) rfl (Or.inl ⟨by rfl,λw hSw=>by go_simp⟩) E ?_;simp only[Act.put,QD,QK,QI,QJ,QC,QH,QG];refine TO (i:=7) ?_;refine AD (by decide) (λK7 HK7=>?_);simp only[QE,QL,QF,QN];go_wp2_with fail;refine HK7.out _ _ ⟨λ_=>trivial,?_⟩;clear HK7;refine TO (i:=8) ?_;refine AD (by decide) (λK8 HK8=>?_);simp only[QE,QL,QF,QN];go_wp2_with fail;refine HK8.out _ _ ⟨λ_=>trivial,?_⟩;clear HK8;refine AL (by kernel_rfl) ?_ _;clear fX yX
    try simp only[Act.put,QD,QK,QI,QJ,QC,QH,QG]
    obtain⟨wI,ag⟩:∃x,wG.setCell ⟨X,33,none⟩ (.slice (some ⟨g,A,none⟩) 0 0)=x:=⟨_,rfl⟩
    rw[ag]at H O ⊢;have ae:=H;have Q:=O;clear ag H O;have ad:=Q.out.size;have ac:Hid (wI.ownsRow w.heap.size 43 34 (.slice la l.length lc) l.length (AR l)):=QA (AN HL.out.row λg2 hg2=>Q.out.block g2 (HL.out.row.lt g2 hg2).2);have be:w.heap.size≤wI.heap.size:=QQ HB.out.size ad;obtain⟨i0,hi,aA,aD,aC⟩:=info_parts GI;go_wp2_with (first|(guard_target=wpList _ _ _ ({ dst:=_,op:=.load 43 _,type:=_,pos:=_,after:=_,guard:=none }::_) _ _;refine AO rfl _ rfl X 0 o (.slice (some ⟨g,A,none⟩) 0 0) C.out rfl ae.out.range ?_)|(guard_target=wpList _ _ _ ({ dst:=_,op:=.buildSlice 22 _ _,type:=_,pos:=_,after:=_,guard:=none }::_) _ _;refine Bg rfl _ rfl o (.slice (some ⟨g,A,none⟩) 0 0) C.out rfl ?_)|(at_builtin;refine wpList_append_own_at _ rfl _ _ 22 rfl w.heap.size 43 i0 _ 34 64 Tryz.underlying22 hi aA aD aC rfl (by decide) (.slice la l.length lc) l.length (AR l) rfl (World.ownsRow.alloc ac.out _) ⟨wI.heap.size,0,none⟩ 1 1 (AG o (.slice (some ⟨g,A,none⟩) 0 0)) rfl (by rw[Ac C.out]) (λj2 u2 hj2=>by rw[Addr.add_mid,Nat.zero_add];exact AA (AJ wI _) j2 u2 (by simpa using hj2)) (BZ rfl) (by unfold maxLen;omega) (by omega) (by simp;omega) ?_;intro d' w5 hown5 hgrow5 hnil5 hloc5;clear hnil5)|fail);have L:Below w.heap.size w w5:=((HB.out.trans (Q.out.mono HB.out.size)).alloc (by omega) _).grown hgrow5 (by simp;omega) (λk2 e2=>(HL.out.row.lt k2 e2).1);have ah:MV T T wr w5:=⟨by have:=hgrow5.size;simp at this;omega,λb hb hf=>⟨hf,(L.block b (HF.out b hf)).trans (HB.out.block b (HF.out b hf)).symm⟩⟩
    have af:T g:=Z.out.2 ⟨g,A,none⟩ _ 35 rfl (by have:=Y.out;omega);have aP:=Sto.bytes_len C.out;have N:=Z.out.1.part 35 (35+0) 0 (by omega) (by have:=Y.out;omega) (by omega) (some ⟨g,A,none⟩) (.inr ⟨by omega,by simp⟩);have I:=Z.out.1.part (35+0) 35 0 (by omega) (by have:=Y.out;omega) (by omega) (some ⟨g,A,none⟩) (.inr ⟨by omega,by simp⟩);have e1:((Sto.flat (ops.drop j)).drop 35).take (35+0-35)=o.2.2:=by
     rw[HD.out,List.drop_append_of_le_length (by omega)];unfold Sto.bytes;rw[ZE,List.drop_append,C.out];have a6:=W.out;rw[show 35+0-35=o.2.2.length by omega];simp[List.take_append,C.out]
    have e2:((Sto.flat (ops.drop j)).drop (35+0)).take (35-(35+0))=Sto.flat (ops.drop (j+1)):=by
     rw[HD.out,show 35+0=(Sto.bytes o).length by have:=W.out;omega,List.drop_left,List.take_of_length_le (by have:=HN.out;have:=W.out;omega)]
    rw[e1,show 35+0-35=0 by omega]at N;rw[e2]at I;have aw:=QA L;have P:=QA ah;have ay:=QA N;rw[show 35-(35+0)=0 by omega]at I;have av:=QA I;have az:=QA hown5;clear L ah N I hown5 hgrow5 hloc5 e1 e2
    try go_wp2_with fail
    go_roundg (ops.length-(j+1))
    case measure=>rw[HK.out];omega
    case rel =>
     refine⟨j+1,l++[(o,.slice (some ⟨g,A,none⟩) 0 0)],by omega,rfl,BA.mv (F:=T) (And.intro av.out λp n c e _=>by cases e;exact af) P.out,⟨?_,λp hp=>?_,λp hp=>?_⟩,?_,aw.out⟩
     ·have e3:(l++[(o,Value.slice (some ⟨g,A,none⟩) 0 0)]).length=l.length+1:=by simp
      have e4:AR (l++[(o,Value.slice (some ⟨g,A,none⟩) 0 0)])=AR l++AG o (.slice (some ⟨g,A,none⟩) 0 0):=by unfold AR;simp
      rw[e3,e4];exact az.out
     ·rcases ZI.1 hp with hp|hp
      ·exact HL.out.key p hp
      ·rw[QB.1 hp];exact C.out
     ·rcases ZI.1 hp with hp|hp
      ·exact (HL.out.val p hp).mv P.out
      ·rw[QB.1 hp];exact BA.mv (F:=T) (And.intro ay.out λp n c e _=>by cases e;exact af) P.out
     ·unfold Sto.opsOf at ab ⊢;rw[ZQ,ab.out,List.take_add_one,ho];rfl
   ·by_cases hbcn:J-35=B
    ·have bm:J=35+B:=by omega
     have bx:m=35+B:=by omega
     subst bm bx;have bo:(B:Int)≤((35+B-35:Nat):Int):=by omega
     have bK:B≠0:=by omega
     go_wp2_with fail;refine Ad [] (by kernel_rfl) (by kernel_rfl) ?_;simp only[Br,QF,QN,QE,QL,Nat.sub_zero,Nat.reduceSub,QW]
     repeat (go_big_quiet_step (fail))
     refine wpQuiet_nil ?_;rintro _ ⟨nq,rfl⟩;have G:Aj (wE.drewN nq) X (o.1,o.2.1,[]) (.slice none 0 0):=ar.out;have M:Below wr.heap.size wr (wE.drewN nq):=Below.drewN aq.out nq;clear aI aL;obtain⟨U,ak⟩:∃x,wE.drewN nq=x:=⟨_,rfl⟩
     rw[ak]at G M ⊢;clear ak ar aq;have K:=QA G;have ai:=QA M;clear G M;go_wp2_with fail;refine AK (λ_=>True) 9 (by kernel_rfl) ?_;have E:True:=trivial;have D:Aj { U with drawn:=U.drawn+1 } X (o.1,o.2.1,[]) (.slice none 0 0):=K.out;have R:Below wr.heap.size wr { U with drawn:=U.drawn+1 }:=Below.drewN ai.out 1;obtain⟨wG,aj⟩:∃x:World,{ U with drawn:=U.drawn+1 }=x:=⟨_,rfl⟩
     rw[aj]at D R ⊢;clear aj K ai;have fX:=AE D 33;have yX:=D.cell (Ao C.out _);have H:=QA (D.set33 C.out o.2.2 (.slice (some ⟨g,A+35,none⟩) B B));have O:Hid (Below wr.heap.size wr (wG.setCell ⟨X,33,none⟩ (.slice (some ⟨g,A+35,none⟩) B B))):=QA (R.setCell (p:=⟨X,33,none⟩) V _);clear D R;refine TK (i:=0) (v:=.slice (some ⟨g,A+35,none⟩) (35+B-35) B) rfl (Or.inl ⟨by rfl,λw hSw=>by go_simp⟩) E ?_;simp only[Act.put,QD,QK,QI,QJ,QC,QH,QG];refine TK (i:=1) (v:=.int .i64 (B:Nat)) rfl (Or.inl ⟨by rfl,λw hSw=>by go_simp⟩) E ?_;simp only[Act.put,QD,QK,QI,QJ,QC,QH,QG];refine TK (i:=2) (v:=.slice (some ⟨g,A+35,none⟩) B B) rfl (Or.inl ⟨by rfl,λw hSw=>by go_simp⟩) E ?_;simp only[Act.put,QD,QK,QI,QJ,QC,QH,QG];refine TK (i:=3) (v:=.slice (some ⟨g,A+35,none⟩) (35+B-35) B) rfl (Or.inl ⟨by rfl,λw hSw=>by go_simp⟩) E ?_;simp only[Act.put,QD,QK,QI,QJ,QC,QH,QG];refine TK (i:=4) (v:=.int .i64 (B:Nat)) rfl (Or.inl ⟨by rfl,λw hSw=>by go_simp⟩) E ?_;simp only[Act.put,QD,QK,QI,QJ,QC,QH,QG];refine TK (i:=5) (v:=.slice (some ⟨g,A+35,none⟩) (35+B-35-B) 0) rfl (Or.inl ⟨by rfl,λw hSw=>by go_simp⟩) E ?_;simp only[Act.put,QD,QK,QI,QJ,QC,QH,QG];refine TK (i:=6) (v:=.pointer (some ⟨X,33,none⟩)) rfl (Or.inl ⟨by rfl,λw hSw=>by go_simp⟩) E ?_;simp only[Act.put,QD,QK,QI,QJ,QC,QH,QG];refine TO (i:=7) ?_;refine AD (by decide) (λK7 HK7=>?_);simp only[QE,QL,QF,QN];go_wp2_with fail;refine HK7.out _ _ ⟨λ_=>trivial,?_⟩;clear HK7;refine TO (i:=8) ?_;refine AD (by decide) (λK8 HK8=>?_);simp only[QE,QL,QF,QN];go_wp2_with fail;refine HK8.out _ _ ⟨λ_=>trivial,?_⟩;clear HK8;refine AL (by kernel_rfl) ?_ _;clear fX yX
     try simp only[Act.put,QD,QK,QI,QJ,QC,QH,QG]
     obtain⟨wI,ag⟩:∃x,wG.setCell ⟨X,33,none⟩ (.slice (some ⟨g,A+35,none⟩) B B)=x:=⟨_,rfl⟩
     rw[ag]at H O ⊢;have ae:=H;have Q:=O;clear ag H O;have ad:=Q.out.size;have ac:Hid (wI.ownsRow w.heap.size 43 34 (.slice la l.length lc) l.length (AR l)):=QA (AN HL.out.row λg2 hg2=>Q.out.block g2 (HL.out.row.lt g2 hg2).2);have be:w.heap.size≤wI.heap.size:=QQ HB.out.size ad;obtain⟨i0,hi,aA,aD,aC⟩:=info_parts GI;go_wp2_with (first|(guard_target=wpList _ _ _ ({ dst:=_,op:=.load 43 _,type:=_,pos:=_,after:=_,guard:=none }::_) _ _;refine AO rfl _ rfl X 0 o (.slice (some ⟨g,A+35,none⟩) B B) C.out rfl ae.out.range ?_)|(guard_target=wpList _ _ _ ({ dst:=_,op:=.buildSlice 22 _ _,type:=_,pos:=_,after:=_,guard:=none }::_) _ _;refine Bg rfl _ rfl o (.slice (some ⟨g,A+35,none⟩) B B) C.out rfl ?_)|(at_builtin;refine wpList_append_own_at _ rfl _ _ 22 rfl w.heap.size 43 i0 _ 34 64 Tryz.underlying22 hi aA aD aC rfl (by decide) (.slice la l.length lc) l.length (AR l) rfl (World.ownsRow.alloc ac.out _) ⟨wI.heap.size,0,none⟩ 1 1 (AG o (.slice (some ⟨g,A+35,none⟩) B B)) rfl (by rw[Ac C.out]) (λj2 u2 hj2=>by rw[Addr.add_mid,Nat.zero_add];exact AA (AJ wI _) j2 u2 (by simpa using hj2)) (BZ rfl) (by unfold maxLen;omega) (by omega) (by simp;omega) ?_;intro d' w5 hown5 hgrow5 hnil5 hloc5;clear hnil5)|fail);have L:Below w.heap.size w w5:=((HB.out.trans (Q.out.mono HB.out.size)).alloc (by omega) _).grown hgrow5 (by simp;omega) (λk2 e2=>(HL.out.row.lt k2 e2).1);have ah:MV T T wr w5:=⟨by have:=hgrow5.size;simp at this;omega,λb hb hf=>⟨hf,(L.block b (HF.out b hf)).trans (HB.out.block b (HF.out b hf)).symm⟩⟩
     have af:T g:=Z.out.2 ⟨g,A,none⟩ _ (35+B) rfl (by have:=Y.out;omega);have aP:=Sto.bytes_len C.out;have N:=Z.out.1.part 35 (35+B) B (by omega) (by have:=Y.out;omega) (by omega) (some ⟨g,A+35,none⟩) (.inl rfl);have I:=Z.out.1.part (35+B) (35+B) 0 (by omega) (by have:=Y.out;omega) (by omega) (some ⟨g,A+35,none⟩) (.inr ⟨by omega,by simp⟩);have e1:((Sto.flat (ops.drop j)).drop 35).take (35+B-35)=o.2.2:=by
      rw[HD.out,List.drop_append_of_le_length (by omega)];unfold Sto.bytes;rw[ZE,List.drop_append,C.out];have a6:=W.out;rw[show 35+B-35=o.2.2.length by omega];simp[List.take_append,C.out]
     have e2:((Sto.flat (ops.drop j)).drop (35+B)).take ((35+B)-(35+B))=Sto.flat (ops.drop (j+1)):=by
      rw[HD.out,show 35+B=(Sto.bytes o).length by have:=W.out;omega,List.drop_left,List.take_of_length_le (by have:=HN.out;have:=W.out;omega)]
     rw[e1,show 35+B-35=B by omega]at N;rw[e2]at I;have aw:=QA L;have P:=QA ah;have ay:=QA N;rw[show (35+B)-(35+B)=0 by omega]at I;have av:=QA I;have az:=QA hown5;clear L ah N I hown5 hgrow5 hloc5 e1 e2
     try go_wp2_with fail
     go_roundg (ops.length-(j+1))
     case measure=>rw[HK.out];omega
     case rel =>
      refine⟨j+1,l++[(o,.slice (some ⟨g,A+35,none⟩) B B)],by omega,rfl,BA.mv (F:=T) (And.intro av.out λp n c e _=>by cases e;exact af) P.out,⟨?_,λp hp=>?_,λp hp=>?_⟩,?_,aw.out⟩
      ·have e3:(l++[(o,Value.slice (some ⟨g,A+35,none⟩) B B)]).length=l.length+1:=by simp
       have e4:AR (l++[(o,Value.slice (some ⟨g,A+35,none⟩) B B)])=AR l++AG o (.slice (some ⟨g,A+35,none⟩) B B):=by unfold AR;simp
       rw[e3,e4];exact az.out
      ·rcases ZI.1 hp with hp|hp
       ·exact HL.out.key p hp
       ·rw[QB.1 hp];exact C.out
      ·rcases ZI.1 hp with hp|hp
       ·exact (HL.out.val p hp).mv P.out
       ·rw[QB.1 hp];exact BA.mv (F:=T) (And.intro ay.out λp n c e _=>by cases e;exact af) P.out
      ·unfold Sto.opsOf at ab ⊢;rw[ZQ,ab.out,List.take_add_one,ho];rfl
    ·have bo:(B:Int)≤((m-35:Nat):Int):=by omega
     have bz:(B:Int)≤((J-35:Nat):Int):=by omega
     go_wp2_with fail;refine Ad [] (by kernel_rfl) (by kernel_rfl) ?_;simp only[Br,QF,QN,QE,QL,Nat.sub_zero,Nat.reduceSub,QW]
     repeat (go_big_quiet_step (fail))
     refine wpQuiet_nil ?_;rintro _ ⟨nq,rfl⟩;have G:Aj (wE.drewN nq) X (o.1,o.2.1,[]) (.slice none 0 0):=ar.out;have M:Below wr.heap.size wr (wE.drewN nq):=Below.drewN aq.out nq;clear aI aL;obtain⟨U,ak⟩:∃x,wE.drewN nq=x:=⟨_,rfl⟩
     rw[ak]at G M ⊢;clear ak ar aq;have K:=QA G;have ai:=QA M;clear G M;go_wp2_with fail;refine AK (λ_=>True) 9 (by kernel_rfl) ?_;have E:True:=trivial;have D:Aj { U with drawn:=U.drawn+1 } X (o.1,o.2.1,[]) (.slice none 0 0):=K.out;have R:Below wr.heap.size wr { U with drawn:=U.drawn+1 }:=Below.drewN ai.out 1;obtain⟨wG,aj⟩:∃x:World,{ U with drawn:=U.drawn+1 }=x:=⟨_,rfl⟩
     rw[aj]at D R ⊢;clear aj K ai;have fX:=AE D 33;have yX:=D.cell (Ao C.out _);have H:=QA (D.set33 C.out o.2.2 (.slice (some ⟨g,A+35,none⟩) B (J-35)));have O:Hid (Below wr.heap.size wr (wG.setCell ⟨X,33,none⟩ (.slice (some ⟨g,A+35,none⟩) B (J-35)))):=QA (R.setCell (p:=⟨X,33,none⟩) V _);clear D R;refine TK (i:=0) (v:=.slice (some ⟨g,A+35,none⟩) (m-35) (J-35)) rfl (Or.inl ⟨by rfl,λw hSw=>by go_simp⟩) E ?_;simp only[Act.put,QD,QK,QI,QJ,QC,QH,QG];refine TK (i:=1) (v:=.int .i64 (B:Nat)) rfl (Or.inl ⟨by rfl,λw hSw=>by go_simp⟩) E ?_;simp only[Act.put,QD,QK,QI,QJ,QC,QH,QG];refine TK (i:=2) (v:=.slice (some ⟨g,A+35,none⟩) B (J-35)) rfl (Or.inl ⟨by rfl,λw hSw=>by go_simp⟩) E ?_;simp only[Act.put,QD,QK,QI,QJ,QC,QH,QG];refine TK (i:=3) (v:=.slice (some ⟨g,A+35,none⟩) (m-35) (J-35)) rfl (Or.inl ⟨by rfl,λw hSw=>by go_simp⟩) E ?_;simp only[Act.put,QD,QK,QI,QJ,QC,QH,QG];refine TK (i:=4) (v:=.int .i64 (B:Nat)) rfl (Or.inl ⟨by rfl,λw hSw=>by go_simp⟩) E ?_;simp only[Act.put,QD,QK,QI,QJ,QC,QH,QG];refine TK (i:=5) (v:=.slice (some ⟨g,A+35+B,none⟩) (m-35-B) (J-35-B)) rfl (Or.inl ⟨by rfl,λw hSw=>by go_simp⟩) E ?_;simp only[Act.put,QD,QK,QI,QJ,QC,QH,QG];refine TK (i:=6) (v:=.pointer (some ⟨X,33,none⟩)) rfl (Or.inl ⟨by rfl,λw hSw=>by go_simp⟩) E ?_;simp only[Act.put,QD,QK,QI,QJ,QC,QH,QG];refine TO (i:=7) ?_;refine AD (by decide) (λK7 HK7=>?_);simp only[QE,QL,QF,QN];go_wp2_with fail;refine HK7.out _ _ ⟨λ_=>trivial,?_⟩;clear HK7;refine TO (i:=8) ?_;refine AD (by decide) (λK8 HK8=>?_);simp only[QE,QL,QF,QN];go_wp2_with fail;refine HK8.out _ _ ⟨λ_=>trivial,?_⟩;clear HK8;refine AL (by kernel_rfl) ?_ _;clear fX yX
     try simp only[Act.put,QD,QK,QI,QJ,QC,QH,QG]
     obtain⟨wI,ag⟩:∃x,wG.setCell ⟨X,33,none⟩ (.slice (some ⟨g,A+35,none⟩) B (J-35))=x:=⟨_,rfl⟩
     rw[ag]at H O ⊢;have ae:=H;have Q:=O;clear ag H O;have ad:=Q.out.size;have ac:Hid (wI.ownsRow w.heap.size 43 34 (.slice la l.length lc) l.length (AR l)):=QA (AN HL.out.row λg2 hg2=>Q.out.block g2 (HL.out.row.lt g2 hg2).2);have be:w.heap.size≤wI.heap.size:=QQ HB.out.size ad;obtain⟨i0,hi,aA,aD,aC⟩:=info_parts GI;go_wp2_with (first|(guard_target=wpList _ _ _ ({ dst:=_,op:=.load 43 _,type:=_,pos:=_,after:=_,guard:=none }::_) _ _;refine AO rfl _ rfl X 0 o (.slice (some ⟨g,A+35,none⟩) B (J-35)) C.out rfl ae.out.range ?_)|(guard_target=wpList _ _ _ ({ dst:=_,op:=.buildSlice 22 _ _,type:=_,pos:=_,after:=_,guard:=none }::_) _ _;refine Bg rfl _ rfl o (.slice (some ⟨g,A+35,none⟩) B (J-35)) C.out rfl ?_)|(at_builtin;refine wpList_append_own_at _ rfl _ _ 22 rfl w.heap.size 43 i0 _ 34 64 Tryz.underlying22 hi aA aD aC rfl (by decide) (.slice la l.length lc) l.length (AR l) rfl (World.ownsRow.alloc ac.out _) ⟨wI.heap.size,0,none⟩ 1 1 (AG o (.slice (some ⟨g,A+35,none⟩) B (J-35))) rfl (by rw[Ac C.out]) (λj2 u2 hj2=>by rw[Addr.add_mid,Nat.zero_add];exact AA (AJ wI _) j2 u2 (by simpa using hj2)) (BZ rfl) (by unfold maxLen;omega) (by omega) (by simp;omega) ?_;intro d' w5 hown5 hgrow5 hnil5 hloc5;clear hnil5)|fail);have L:Below w.heap.size w w5:=((HB.out.trans (Q.out.mono HB.out.size)).alloc (by omega) _).grown hgrow5 (by simp;omega) (λk2 e2=>(HL.out.row.lt k2 e2).1);have ah:MV T T wr w5:=⟨by have:=hgrow5.size;simp at this;omega,λb hb hf=>⟨hf,(L.block b (HF.out b hf)).trans (HB.out.block b (HF.out b hf)).symm⟩⟩
     have af:T g:=Z.out.2 ⟨g,A,none⟩ _ J rfl (by have:=Y.out;omega);have aP:=Sto.bytes_len C.out;have N:=Z.out.1.part 35 (35+B) (J-35) (by omega) (by have:=Y.out;omega) (by omega) (some ⟨g,A+35,none⟩) (.inl rfl);have I:=Z.out.1.part (35+B) m (J-35-B) (by omega) (by have:=Y.out;omega) (by omega) (some ⟨g,A+35+B,none⟩) (.inl (by rw[Nat.add_assoc]));have e1:((Sto.flat (ops.drop j)).drop 35).take (35+B-35)=o.2.2:=by
      rw[HD.out,List.drop_append_of_le_length (by omega)];unfold Sto.bytes;rw[ZE,List.drop_append,C.out];have a6:=W.out;rw[show 35+B-35=o.2.2.length by omega];simp[List.take_append,C.out]
     have e2:((Sto.flat (ops.drop j)).drop (35+B)).take (m-(35+B))=Sto.flat (ops.drop (j+1)):=by
      rw[HD.out,show 35+B=(Sto.bytes o).length by have:=W.out;omega,List.drop_left,List.take_of_length_le (by have:=HN.out;have:=W.out;omega)]
     rw[e1,show 35+B-35=B by omega]at N;rw[e2]at I;have aw:=QA L;have P:=QA ah;have ay:=QA N;rw[show m-(35+B)=(m-35-B) by omega]at I;have av:=QA I;have az:=QA hown5;clear L ah N I hown5 hgrow5 hloc5 e1 e2
     try go_wp2_with fail
     go_roundg (ops.length-(j+1))
     case measure=>rw[HK.out];omega
     case rel =>
      refine⟨j+1,l++[(o,.slice (some ⟨g,A+35,none⟩) B (J-35))],by omega,rfl,BA.mv (F:=T) (And.intro av.out λp n c e _=>by cases e;exact af) P.out,⟨?_,λp hp=>?_,λp hp=>?_⟩,?_,aw.out⟩
      ·have e3:(l++[(o,Value.slice (some ⟨g,A+35,none⟩) B (J-35))]).length=l.length+1:=by simp
       have e4:AR (l++[(o,Value.slice (some ⟨g,A+35,none⟩) B (J-35))])=AR l++AG o (.slice (some ⟨g,A+35,none⟩) B (J-35)):=by unfold AR;simp
       rw[e3,e4];exact az.out
      ·rcases ZI.1 hp with hp|hp
       ·exact HL.out.key p hp
       ·rw[QB.1 hp];exact C.out
      ·rcases ZI.1 hp with hp|hp
       ·exact (HL.out.val p hp).mv P.out
       ·rw[QB.1 hp];exact BA.mv (F:=T) (And.intro ay.out λp n c e _=>by cases e;exact af) P.out
      ·unfold Sto.opsOf at ab ⊢;rw[ZQ,ab.out,List.take_add_one,ho];rfl
  ·have bO:j=ops.length:=by omega
   have hz:Sto.flat (ops.drop j)=[]:=by rw[List.drop_eq_nil_of_le (by omega)];rfl
   obtain⟨m,hm⟩:∃m,(Sto.flat (ops.drop j)).length=m:=⟨_,rfl⟩
   rw[hm];have a4:m=0:=by rw[← hm,hz];rfl
   subst a4;have ax:Hid (Sto.opsOf l=ops):=by rw[ab.out,List.take_of_length_le (by omega)];exact QA rfl
   have bC:0<l.length:=by
    have h1:=congrArg List.length ax.out;rw[Sto.opsOf_len]at h1;have:=HG.out.some';omega
   have br:(0:Int)<(l.length:Int):=by omega
   have bB:l.length≤1000:=by
    have h1:=congrArg List.length ax.out;rw[Sto.opsOf_len]at h1;have:=Sto.mass_len ops;omega
   clear hb hm hz;go_wp2_with fail;refine (Ex _ l wr (λ_=>True) (HL.out.opsF (λ_ _=>trivial) (λ_ _=>trivial)) (by omega) (λp hp=>by
    have h1:p.1∈ops:=by rw[← ax.out];exact List.mem_map.2 ⟨p,hp,rfl⟩
    have:=Sto.mass_mem h1;omega)).mono ?_
   rintro e w2 ⟨rfl,hb2⟩;rw[ax.out,HG.out.chk];have bw:=QA (HB.out.trans (hb2.mono HB.out.size));have bu:=QA (HL.out.below hb2);clear hb2;go_wp2_with fail;refine bodyPost_ret (v:=.tuple #[.slice la l.length lc,.bool true]) (by simp[results,Tryz.results48,go_sem]) rfl ?_;exact⟨_,l,rfl,bu.out,ax.out,bw.out⟩
end Go.Proofs.YtjldahcckmmenaaGreatDoor
